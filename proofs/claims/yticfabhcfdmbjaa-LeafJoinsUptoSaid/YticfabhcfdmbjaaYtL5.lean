/-
  Walks of leaf.
-/
import Derived.Test.YticfabhcfdmbjaaYtL4
import Derived.Test.YticfabhcfdmbjaaModelR
set_option linter.unusedVariables false
set_option linter.unusedSimpArgs false
namespace Go.Proofs.Yticfabhcfdmbjaa
open Go Go.Sl Go.Proofs
set_option maxRecDepth 20000
open Go.Mo
theorem mapM_ok {α β : Type} {f : α → Option β} : ∀ {l : List α}, (∀ a ∈ l, ∃ b, f a = some b) → ∃ bs, l.mapM f = some bs
  | [], _ => ⟨[], rfl⟩
  | a :: l, h => by
    obtain ⟨b, hb⟩ := h a (List.mem_cons_self ..)
    obtain ⟨bs, hbs⟩ := mapM_ok (l := l) (fun x hx => h x (List.mem_cons_of_mem _ hx))
    exact ⟨b :: bs, by rw [List.mapM_cons, hb, hbs]; rfl⟩
theorem key52 : KeyTy Try.prog 52 := ⟨by kernel_rfl, by kernel_rfl, by kernel_rfl, by kernel_rfl⟩
theorem plain_u8 {c : UInt8} (d : Nat) : ∃ L, Try.prog.keyLits (d + 1) 5 [u8V c] = some L := by
  refine ⟨[.int .u8 (c.toNat : Int)], ?_⟩
  unfold Program.keyLits
  rw [Try.underlying5]
  have : (Lit.int .u8 (c.toNat : Int)).wf = true := by
    have := c.toNat_lt
    simp [Lit.wf, IntKind.min, IntKind.max, IntKind.signed, IntKind.bits]
    omega
  simp [u8V, this]
theorem plain_pay {l : List UInt8} (h : l.length = 32) : Plain Try.prog 52 (l.map u8V) := by
  refine ⟨2, ?_⟩
  unfold Program.keyLits
  rw [Try.underlying52]
  have hc : Try.prog.cellsOf 52 = 32 := by kernel_rfl
  have h5 : Try.prog.cellsOf 5 = 1 := by kernel_rfl
  simp only [hc, h5, List.length_map, h, if_true]
  have hall : ∀ i ∈ List.range 32, ∃ L, Try.prog.keyLits 1 5 (((l.map u8V).drop (i * 1)).take 1) = some L := by
    intro i hi
    have hi2 : i < (l.map u8V).length := by simp [h]; simpa using hi
    rw [Nat.mul_one, List.drop_eq_getElem_cons hi2, List.take_succ_cons, List.take_zero, List.getElem_map]
    exact plain_u8 0
  obtain ⟨ls, ha⟩ : ∃ ls, (List.range 32).mapM (fun i => Try.prog.keyLits 1 5 (((l.map u8V).drop (i * 1)).take 1)) = some ls := mapM_ok hall
  exact ⟨_, by rw [ha]; rfl⟩
theorem Whole_spec (A : Assn) (v : Value) (p0 : Pg) (pr : List Pg) (hA : Ent A (view 39 v (p0 :: pr).length (pgs (p0 :: pr)))) (hok : ∀ p ∈ (p0 :: pr), p.ok) (hlen : (p0 :: pr).length ≤ 65536) : Ctr Try.prog 44 [v] [A] (WholeQ A (p0 :: pr)) := by
  refine Ctr.of_body Try.func44 rfl (by kernel_rfl) Try.ntmps44 rfl rfl (fun Fr => ?_)
  refine T.peek (A := view 39 v (p0 :: pr).length (pgs (p0 :: pr))) ((Ent.head _ _).trans hA) view_form ?_
  rintro ⟨q, cap, rfl, hcap, hcm, hqf⟩
  obtain ⟨sb, so, rfl⟩ := hqf (by simp)
  obtain ⟨hl0, hl1⟩ := (hok p0 (List.mem_cons_self ..)).lba
  refine T.seq fun K1 hK1 => ?_
  refine T.region (l := [0, 1]) rfl ?_
  refine RN.qq rfl rfl rfl rfl (PRun.q (p_assign rfl (by conv => lhs; whnf))) ?_
  refine RN.qq rfl rfl rfl rfl (PRun.q (p_assign rfl (by conv => lhs; whnf))) ?_
  refine RN.nil ?_
  refine hK1 _ _ ?_
  refine T.seq fun K2 hK2 => ?_
  refine T.region (l := [0, 1, 2, 3, 4]) rfl ?_
  refine RN.qq rfl rfl rfl rfl (PRun.q (p_move rfl (by conv => lhs; whnf))) ?_
  refine RN.qq rfl rfl rfl rfl (PRun.q (by first | exact (p_indexAddrN (i := 0) rfl Try.underlying45 ts_54 rfl rfl (by simp)) | exact (p_indexAddr rfl Try.underlying45 ts_54 rfl rfl (by simp)))) ?_
  refine RN.qq rfl rfl rfl rfl (PRun.q (p_fieldAddr rfl fa_54_1 rfl)) ?_
  refine RN.qq rfl rfl rfl rfl (QRun.ent (Ent.cons (hA.trans (view_cells (by simp))) (Ent.refl _)) (q_load1C (k := 1) (v := u32V p0.lba) rfl sc_48 rfl (i := 0) rfl rfl)) ?_
  refine RN.qq rfl rfl rfl rfl (PRun.q (p_assign rfl (by conv => lhs; whnf))) ?_
  refine RN.nil ?_
  refine hK2 _ _ ?_
  refine T.seq fun K3 hK3 => ?_
  refine T.seq fun K4 hK4 => ?_
  refine T.region (l := [0, 1]) rfl ?_
  refine RN.qq rfl rfl rfl rfl (PRun.q (p_move rfl (by conv => lhs; whnf))) ?_
  refine RN.qq rfl rfl rfl rfl (PRun.q (p_gtr rfl rfl rfl)) ?_
  refine RN.nil ?_
  refine hK4 _ _ ?_
  first | refine T.cond_dec rfl (fun h19 => ?_) (fun h19 => ?_) | refine T.cond rfl (fun h19 => ?_) (fun h19 => ?_)
  ·
    refine T.seq fun K5 hK5 => ?_
    refine T.region (l := [0, 1]) rfl ?_
    refine RN.qq rfl rfl rfl rfl (PRun.q (p_assign rfl (by conv => lhs; whnf))) ?_
    refine RN.qq rfl rfl rfl rfl (PRun.q (p_assign rfl (by conv => lhs; whnf))) ?_
    refine RN.nil ?_
    refine hK5 _ _ ?_
    refine T.ret ?_
    refine Post.seq_r ?_
    refine bodyQ_ret [A] (RetRun.tmp (RetRun.tmp RetRun.nil)) (WholeQ_none (by rw [wholeL, if_pos (by omega)])) (Ent.refl _)
  ·
    have hbig : ¬ 65536 < p0.lba := by omega
    refine T.skip ?_
    refine hK3 _ _ ?_
    refine T.seq fun K6 hK6 => ?_
    refine T.region (l := [0, 1, 2, 3]) rfl ?_
    refine RN.qq rfl rfl rfl rfl (PRun.q (p_move rfl (by conv => lhs; whnf))) ?_
    refine RN.qq rfl rfl rfl rfl (PRun.q (p_conv_i64 rfl Try.underlying48 Try.underlying3 rfl (by omega))) ?_
    refine RN.C [] rfl rfl rfl rfl (c_call rfl rfl) (Pages_spec p0.lba) rfl ?_
    rintro _ _ ⟨rfl, rfl⟩
    rw [if_neg (by omega)]
    have hpn := pagesN_le (n := p0.lba.toNat) (by omega)
    refine RN.qq rfl rfl rfl rfl (PRun.q (p_assign rfl (by conv => lhs; whnf))) ?_
    refine RN.nil ?_
    refine hK6 _ _ ?_
    refine T.seq fun K7 hK7 => ?_
    refine T.region (l := [0, 1, 2]) rfl ?_
    refine RN.qq rfl rfl rfl rfl (PRun.q (p_move rfl (by conv => lhs; whnf))) ?_
    refine RN.E rfl rfl rfl rfl (by first | exact (e_makeSliceN rfl Try.underlying102 ti_103 rfl rfl rfl (by omega)) | exact (e_makeSlice rfl Try.underlying102 ti_103 rfl rfl rfl (by omega))) ?_
    rintro _ _ ⟨b24, rfl, rfl⟩
    rw [zeros_ptr]
    refine RN.qq rfl rfl rfl rfl (PRun.q (p_assign rfl (by conv => lhs; whnf))) ?_
    refine RN.nil ?_
    refine hK7 _ _ ?_
    refine T.seq fun K8 hK8 => ?_
    refine T.seq fun K9 hK9 => ?_
    refine T.region (l := [0, 1, 2]) rfl ?_
    refine RN.qq rfl rfl rfl rfl (PRun.q (p_move rfl (by conv => lhs; whnf))) ?_
    refine RN.qq rfl rfl rfl rfl (PRun.q (p_len rfl Try.underlying45 rfl)) ?_
    refine RN.qq rfl rfl rfl rfl (PRun.q (p_move rfl (by conv => lhs; whnf))) ?_
    refine RN.nil ?_
    refine hK9 _ _ ?_
    refine T.block ?_
    refine T.loop (G := Nat × List Bx) (fun ⟨i, bs⟩ => i ≤ (p0 :: pr).length ∧ bs.length = (pagesN p0.lba.toNat) ∧ wfold p0.lba (pagesN p0.lba.toNat) (some (List.replicate (pagesN p0.lba.toNat) none)) ((p0 :: pr).take i) = some (bs.map Bx.pay) ∧ ∀ x b p, x ∈ bs → x = some (b, p) → p.pay.length = 32) (fun ⟨i, bs⟩ => [(4, u32V p0.lba), (5, intV (pagesN p0.lba.toNat)), (6, slc b24 0 (pagesN p0.lba.toNat) (pagesN p0.lba.toNat)), (25, slc sb so (p0 :: pr).length cap), (26, intV (p0 :: pr).length), (27, intV i)]) (fun ⟨i, bs⟩ => [row b24 103 (bs.map Bx.ptr), sep (bs.map (Bx.own 54)), A, Fr]) (fun ⟨i, bs⟩ => (p0 :: pr).length - i) (0, List.replicate (pagesN p0.lba.toNat) none) ⟨Nat.zero_le _, by simp, by rw [List.take_zero, List.map_replicate]; rfl, fun x b p hx hxe => by simp at hx; rw [hx.2] at hxe; cases hxe⟩ (LiveIs.cons rfl (LiveIs.cons rfl (LiveIs.cons rfl (LiveIs.cons rfl (LiveIs.cons rfl (LiveIs.cons rfl LiveIs.nil)))))) (Ent.cons (Ent.refl _) ((Ent.unflat [] _).trans (Ent.cons (own_none 54 _) (Ent.refl _)))) ?_
    rintro ⟨i, bs⟩ e10 ⟨hil, hbl, hf, hbs⟩
    dsimp only
    refine T.seq fun K11 hK11 => ?_
    refine T.region (l := [0]) rfl ?_
    refine RN.qq rfl rfl rfl rfl (PRun.q (p_lss rfl rfl rfl)) ?_
    refine RN.nil ?_
    refine hK11 _ _ ?_
    refine T.seq fun K12 hK12 => ?_
    first | refine T.cond_dec rfl (fun h28 => ?_) (fun h28 => ?_) | refine T.cond rfl (fun h28 => ?_) (fun h28 => ?_)
    ·
      have hi : i < (p0 :: pr).length := by omega
      have hp := hok _ (List.getElem_mem hi)
      obtain ⟨hx0, hx1⟩ := hp.index
      refine T.skip ?_
      refine hK12 _ _ ?_
      refine T.seq fun K13 hK13 => ?_
      refine T.block ?_
      refine T.seq fun K14 hK14 => ?_
      refine T.region (l := [0, 1, 2, 3]) rfl ?_
      refine RN.qq rfl rfl rfl rfl (PRun.q (by first | exact (p_indexAddrN rfl Try.underlying45 ts_54 rfl rfl (by omega)) | exact (p_indexAddr rfl Try.underlying45 ts_54 rfl rfl (by omega)))) ?_
      refine RN.qq rfl rfl rfl rfl (QRun.ent ((Ent.pull_drop (is := [2]) rfl).trans (Ent.cons (hA.trans (view_cells (by simp))) (Ent.refl _))) (q_loadCA (j := i * 39) rfl ag_54 ts_54 rfl (i := 0) rfl (by rw [pgs_length (fun p hp => (hok p hp).pay)]; omega) (pgs_get (fun p hp => (hok p hp).pay) hi))) ?_
      refine RN.E rfl rfl rfl rfl (e_alloc rfl ti_54) ?_
      rintro _ _ ⟨b8, rfl, rfl⟩
      refine RN.EN rfl rfl rfl (e_storeA rfl ts_54 rfl rfl (Pg.cells_length hp.pay) Pg.one (i := 0) rfl (by simp)) ?_
      rintro _ _ ⟨rfl, rfl⟩
      simp only [setN]
      rw [lay_pg rfl hp.pay]
      refine RN.nil ?_
      refine hK14 _ _ ?_
      refine T.seq fun K15 hK15 => ?_
      refine T.seq fun K16 hK16 => ?_
      refine T.region (l := [0, 1, 2, 3, 4, 5, 6, 7, 8, 9, 10, 11, 12, 13, 14, 15, 16, 17]) rfl ?_
      refine RN.qq rfl rfl rfl rfl (PRun.q (p_fieldAddr rfl fa_54_1 rfl)) ?_
      refine RN.qq rfl rfl rfl rfl (by first | exact (q_load rfl sc_48 rfl (i := 0) rfl rfl) | exact (q_load rfl sc_48 rfl (i := 1) rfl rfl) | exact (q_load rfl sc_48 rfl (i := 2) rfl rfl) | exact (q_load rfl sc_48 rfl (i := 3) rfl rfl) | exact (q_load rfl sc_48 rfl (i := 4) rfl rfl)) ?_
      refine RN.qq rfl rfl rfl rfl (PRun.q (p_move rfl (by conv => lhs; whnf))) ?_
      refine RN.qq rfl rfl rfl rfl (PRun.q (p_neq rfl rfl rfl)) ?_
      refine RN.qq rfl rfl rfl rfl (PRun.q (p_move rfl (by conv => lhs; whnf))) ?_
      first | refine RN.split_dec 35 rfl (fun h35 => ?_) (fun h35 => ?_) | refine RN.split 35 rfl (fun h35 => ?_) (fun h35 => ?_)
      ·
        refine RN.O rfl rfl rfl rfl ?_
        refine RN.O rfl rfl rfl rfl ?_
        refine RN.O rfl rfl rfl rfl ?_
        refine RN.O rfl rfl rfl rfl ?_
        refine RN.O rfl rfl rfl rfl ?_
        refine RN.qq rfl rfl rfl rfl (PRun.q (p_pick_t rfl rfl (by conv => lhs; whnf))) ?_
        refine RN.qq rfl rfl rfl rfl (PRun.q (p_move rfl (by conv => lhs; whnf))) ?_
        refine RN.O rfl rfl rfl rfl ?_
        refine RN.O rfl rfl rfl rfl ?_
        refine RN.O rfl rfl rfl rfl ?_
        refine RN.O rfl rfl rfl rfl ?_
        refine RN.O rfl rfl rfl rfl ?_
        refine RN.qq rfl rfl rfl rfl (PRun.q (p_pick_t rfl rfl (by conv => lhs; whnf))) ?_
        refine RN.nil ?_
        refine hK16 _ _ ?_
        refine T.cond_t rfl ?_
        refine T.seq fun K17 hK17 => ?_
        refine T.region (l := [0, 1]) rfl ?_
        refine RN.qq rfl rfl rfl rfl (PRun.q (p_assign rfl (by conv => lhs; whnf))) ?_
        refine RN.qq rfl rfl rfl rfl (PRun.q (p_assign rfl (by conv => lhs; whnf))) ?_
        refine RN.nil ?_
        refine hK17 _ _ ?_
        refine T.ret ?_
        refine Post.seq_r ?_
        refine Post.block_r ?_
        refine Post.seq_r ?_
        refine Post.seq_r ?_
        refine Post.block_r ?_
        refine Post.seq_r ?_
        refine bodyQ_ret [A] (RetRun.tmp (RetRun.tmp RetRun.nil)) (WholeQ_none (wholeL_dead hbig hi hf (wstep_bad (.inl h35)))) (Ent.pull_drop (is := [3, 3]) rfl)
      ·
        refine RN.qq rfl rfl rfl rfl (PRun.q (p_fieldAddr rfl fa_54_6 rfl)) ?_
        refine RN.qq rfl rfl rfl rfl (by first | exact (q_load rfl sc_48 rfl (i := 0) rfl rfl) | exact (q_load rfl sc_48 rfl (i := 1) rfl rfl) | exact (q_load rfl sc_48 rfl (i := 2) rfl rfl) | exact (q_load rfl sc_48 rfl (i := 3) rfl rfl) | exact (q_load rfl sc_48 rfl (i := 4) rfl rfl)) ?_
        refine RN.qq rfl rfl rfl rfl (PRun.q (p_move rfl (by conv => lhs; whnf))) ?_
        refine RN.qq rfl rfl rfl rfl (PRun.q (p_conv_u32 rfl Try.underlying3 Try.underlying48 rfl (by omega))) ?_
        refine RN.qq rfl rfl rfl rfl (PRun.q (p_neq rfl rfl rfl)) ?_
        refine RN.qq rfl rfl rfl rfl (PRun.q (p_pick_f rfl rfl (by conv => lhs; whnf))) ?_
        refine RN.qq rfl rfl rfl rfl (PRun.q (p_move rfl (by conv => lhs; whnf))) ?_
        first | refine RN.split_dec 42 rfl (fun h42 => ?_) (fun h42 => ?_) | refine RN.split 42 rfl (fun h42 => ?_) (fun h42 => ?_)
        ·
          refine RN.O rfl rfl rfl rfl ?_
          refine RN.O rfl rfl rfl rfl ?_
          refine RN.O rfl rfl rfl rfl ?_
          refine RN.O rfl rfl rfl rfl ?_
          refine RN.O rfl rfl rfl rfl ?_
          refine RN.qq rfl rfl rfl rfl (PRun.q (p_pick_t rfl rfl (by conv => lhs; whnf))) ?_
          refine RN.nil ?_
          refine hK16 _ _ ?_
          refine T.cond_t rfl ?_
          refine T.seq fun K18 hK18 => ?_
          refine T.region (l := [0, 1]) rfl ?_
          refine RN.qq rfl rfl rfl rfl (PRun.q (p_assign rfl (by conv => lhs; whnf))) ?_
          refine RN.qq rfl rfl rfl rfl (PRun.q (p_assign rfl (by conv => lhs; whnf))) ?_
          refine RN.nil ?_
          refine hK18 _ _ ?_
          refine T.ret ?_
          refine Post.seq_r ?_
          refine Post.block_r ?_
          refine Post.seq_r ?_
          refine Post.seq_r ?_
          refine Post.block_r ?_
          refine Post.seq_r ?_
          refine bodyQ_ret [A] (RetRun.tmp (RetRun.tmp RetRun.nil)) (WholeQ_none (wholeL_dead hbig hi hf (wstep_bad (.inr (.inl h42))))) (Ent.pull_drop (is := [3, 3]) rfl)
        ·
          refine RN.qq rfl rfl rfl rfl (PRun.q (p_fieldAddr rfl fa_54_5 rfl)) ?_
          refine RN.qq rfl rfl rfl rfl (by first | exact (q_load rfl sc_48 rfl (i := 0) rfl rfl) | exact (q_load rfl sc_48 rfl (i := 1) rfl rfl) | exact (q_load rfl sc_48 rfl (i := 2) rfl rfl) | exact (q_load rfl sc_48 rfl (i := 3) rfl rfl) | exact (q_load rfl sc_48 rfl (i := 4) rfl rfl)) ?_
          refine RN.qq rfl rfl rfl rfl (PRun.q (p_move rfl (by conv => lhs; whnf))) ?_
          refine RN.qq rfl rfl rfl rfl (PRun.q (p_conv_u32 rfl Try.underlying3 Try.underlying48 rfl (by omega))) ?_
          refine RN.qq rfl rfl rfl rfl (PRun.q (p_geq rfl rfl rfl)) ?_
          refine RN.qq rfl rfl rfl rfl (PRun.q (p_pick_f rfl rfl (by conv => lhs; whnf))) ?_
          refine RN.nil ?_
          refine hK16 _ _ ?_
          first | refine T.cond_dec rfl (fun h48 => ?_) (fun h48 => ?_) | refine T.cond rfl (fun h48 => ?_) (fun h48 => ?_)
          ·
            refine T.seq fun K19 hK19 => ?_
            refine T.region (l := [0, 1]) rfl ?_
            refine RN.qq rfl rfl rfl rfl (PRun.q (p_assign rfl (by conv => lhs; whnf))) ?_
            refine RN.qq rfl rfl rfl rfl (PRun.q (p_assign rfl (by conv => lhs; whnf))) ?_
            refine RN.nil ?_
            refine hK19 _ _ ?_
            refine T.ret ?_
            refine Post.seq_r ?_
            refine Post.block_r ?_
            refine Post.seq_r ?_
            refine Post.seq_r ?_
            refine Post.block_r ?_
            refine Post.seq_r ?_
            refine bodyQ_ret [A] (RetRun.tmp (RetRun.tmp RetRun.nil)) (WholeQ_none (wholeL_dead hbig hi hf (wstep_bad (.inr (.inr (by omega)))))) (Ent.pull_drop (is := [3, 3]) rfl)
          ·
            have hcond : ¬ ((p0 :: pr)[i].lba ≠ p0.lba ∨ (p0 :: pr)[i].total ≠ ((pagesN p0.lba.toNat) : Nat) ∨ (((pagesN p0.lba.toNat) : Nat) : Int) ≤ (p0 :: pr)[i].index) := fun hh => hh.elim h35 (fun hh => hh.elim h42 (by omega))
            have hx2 : (p0 :: pr)[i].index.toNat < bs.length := by omega
            refine T.skip ?_
            refine hK15 _ _ ?_
            refine T.seq fun K20 hK20 => ?_
            refine T.seq fun K21 hK21 => ?_
            refine T.regionD (z := 18) (Bs := _) (l := [(0, .pure), (1, .pure), (2, .load), (3, .pure), (4, .load), (5, .pure), (6, .pure), (7, .pure), (8, .pure), (9, .load), (10, .pure), (11, .load), (12, .pure), (13, .load), (14, .pure), (15, .load), (16, .pure), (17, .pure)]) mixed (by kernel_rfl) (Ent.refl _) ?_
            refine RD.pp rfl rfl rfl rfl (p_move rfl (by conv => lhs; whnf)) ?_
            refine RD.pp rfl rfl rfl rfl (p_fieldAddr rfl fa_54_5 rfl) ?_
            refine RD.qq rfl rfl rfl rfl (by first | exact (q_load rfl sc_48 rfl (i := 0) rfl rfl) | exact (q_load rfl sc_48 rfl (i := 1) rfl rfl) | exact (q_load rfl sc_48 rfl (i := 2) rfl rfl) | exact (q_load rfl sc_48 rfl (i := 3) rfl rfl) | exact (q_load rfl sc_48 rfl (i := 4) rfl rfl)) (Ent.refl _) ?_
            refine RD.pp rfl rfl rfl rfl (by first | exact (p_indexAddr1N rfl Try.underlying102 ts_103 rfl rfl (by omega)) | exact (p_indexAddr1 rfl Try.underlying102 ts_103 rfl rfl (by omega))) ?_
            refine RD.qq rfl rfl rfl rfl (q_load rfl sc_103 rfl (i := 1) rfl (bx_get hx2)) (Ent.refl _) ?_
            refine RD.pp rfl rfl rfl rfl (p_ptrneq_nil rfl rfl rfl Try.underlying103) ?_
            refine RD.pp rfl rfl rfl rfl (p_move rfl (by conv => lhs; whnf)) ?_
            first | refine RD.split_dec 55 rfl (fun h55 => ?_) (fun h55 => ?_) | refine RD.split 55 rfl (fun h55 => ?_) (fun h55 => ?_)
            ·
              obtain ⟨b1, p1, hb1⟩ := bx_some h55
              have hp1 : p1.pay.length = 32 := hbs _ _ _ (List.getElem_mem hx2) hb1
              have hpc : (bs.map Bx.pay)[(p0 :: pr)[i].index.toNat]? = some (some p1.pay) := by rw [List.getElem?_map, List.getElem?_eq_getElem hx2, hb1]; rfl
              refine RD.pp rfl rfl rfl rfl (p_move rfl (by conv => lhs; whnf)) ?_
              refine RD.pp rfl rfl rfl rfl (p_fieldAddr rfl fa_54_5 rfl) ?_
              refine RD.qq rfl rfl rfl rfl (by first | exact (q_load rfl sc_48 rfl (i := 0) rfl rfl) | exact (q_load rfl sc_48 rfl (i := 1) rfl rfl) | exact (q_load rfl sc_48 rfl (i := 2) rfl rfl) | exact (q_load rfl sc_48 rfl (i := 3) rfl rfl) | exact (q_load rfl sc_48 rfl (i := 4) rfl rfl)) (Ent.refl _) ?_
              refine RD.pp rfl rfl rfl rfl (by first | exact (p_indexAddr1N rfl Try.underlying102 ts_103 rfl rfl (by omega)) | exact (p_indexAddr1 rfl Try.underlying102 ts_103 rfl rfl (by omega))) ?_
              refine RD.qq rfl rfl rfl rfl (q_load (v := ptr b1 7) rfl sc_103 rfl (i := 1) rfl (by rw [bx_get hx2, hb1]; rfl)) (Ent.refl _) ?_
              refine RD.pp rfl rfl rfl rfl (p_nilCheck rfl rfl) ?_
              refine RD.qq rfl rfl rfl rfl (QRun.ent (Ent.inside (i := 2) rfl (own_bx hx2 hb1)) (q_loadA rfl ag_52 ts_52 rfl (i := 0) rfl (by rw [Pg.cells_length hp1]; omega) (pay_cells hp1))) (Ent.refl _) ?_
              refine RD.pp rfl rfl rfl rfl (p_fieldAddr rfl fa_54_7 rfl) ?_
              refine RD.qq rfl rfl rfl rfl (q_loadA rfl ag_52 ts_52 rfl (i := 0) rfl (by rw [Pg.cells_length hp.pay]; omega) (pay_cells hp.pay)) (Ent.refl _) ?_
              refine RD.pp rfl rfl rfl rfl (p_aggneq (p := p1.pay = (p0 :: pr)[i].pay) rfl key52 rfl rfl (plain_pay hp1) (plain_pay hp.pay) ⟨fun h => by rw [h], u8V_inj⟩) ?_
              refine RD.pp rfl rfl rfl rfl (p_pick_t rfl rfl (by conv => lhs; whnf)) ?_
              refine RD.nil ?_
              refine hK21 _ _ ?_
              first | refine T.cond_dec rfl (fun h66 => ?_) (fun h66 => ?_) | refine T.cond rfl (fun h66 => ?_) (fun h66 => ?_)
              ·
                refine T.seq fun K22 hK22 => ?_
                refine T.region (l := [0, 1]) rfl ?_
                refine RN.qq rfl rfl rfl rfl (PRun.q (p_assign rfl (by conv => lhs; whnf))) ?_
                refine RN.qq rfl rfl rfl rfl (PRun.q (p_assign rfl (by conv => lhs; whnf))) ?_
                refine RN.nil ?_
                refine hK22 _ _ ?_
                refine T.ret ?_
                refine Post.seq_r ?_
                refine Post.block_r ?_
                refine Post.seq_r ?_
                refine Post.seq_r ?_
                refine Post.block_r ?_
                refine Post.seq_r ?_
                refine bodyQ_ret [A] (RetRun.tmp (RetRun.tmp RetRun.nil)) (WholeQ_none (wholeL_dead hbig hi hf (wstep_dif hpc h66))) (Ent.pull_drop (is := [3, 3]) rfl)
              ·
                have hw := wstep_some hcond (pt := bs.map Bx.pay) (fun c hc => by rw [hpc] at hc; cases hc; exact Classical.not_not.1 h66)
                refine T.skip ?_
                refine hK20 _ _ ?_
                refine T.region (l := [0, 1, 2, 3, 4, 5]) rfl ?_
                refine RN.qq rfl rfl rfl rfl (PRun.q (p_move rfl (by conv => lhs; whnf))) ?_
                refine RN.qq rfl rfl rfl rfl (PRun.q (p_fieldAddr rfl fa_54_5 rfl)) ?_
                refine RN.qq rfl rfl rfl rfl (by first | exact (q_load rfl sc_48 rfl (i := 0) rfl rfl) | exact (q_load rfl sc_48 rfl (i := 1) rfl rfl) | exact (q_load rfl sc_48 rfl (i := 2) rfl rfl) | exact (q_load rfl sc_48 rfl (i := 3) rfl rfl) | exact (q_load rfl sc_48 rfl (i := 4) rfl rfl)) ?_
                refine RN.qq rfl rfl rfl rfl (PRun.q (p_fieldAddr rfl fa_54_7 rfl)) ?_
                refine RN.qq rfl rfl rfl rfl (PRun.q (by first | exact (p_indexAddr1N rfl Try.underlying102 ts_103 rfl rfl (by omega)) | exact (p_indexAddr1 rfl Try.underlying102 ts_103 rfl rfl (by omega)))) ?_
                refine RN.EN rfl rfl rfl (e_store rfl ts_103 rfl (by conv => lhs; whnf) (by first | rfl | assumption) (i := 1) rfl (by rw [List.length_map]; omega)) ?_
                rintro _ _ ⟨rfl, rfl⟩
                refine RN.nil ?_
                refine hK13 _ _ ?_
                refine T.region (l := [0, 1]) rfl ?_
                refine RN.qq rfl rfl rfl rfl (PRun.q (by first | exact (p_addN (b := 1) rfl rfl rfl (by omega)) | exact (p_add rfl rfl rfl (by omega)))) ?_
                refine RN.qq rfl rfl rfl rfl (PRun.q (p_move rfl (by conv => lhs; whnf))) ?_
                refine RN.nil ?_
                refine ⟨(i + 1, bs.set (p0 :: pr)[i].index.toNat (some (b8, (p0 :: pr)[i]))), ⟨by omega, by rw [List.length_set]; exact hbl, by rw [wfold_take hi, hf]; exact hw.trans (by rw [List.map_set]; rfl), bs_set_ok hbs hp.pay⟩, (by show _ - (i + 1) < _ - i; omega), (LiveIs.cons rfl (LiveIs.cons rfl (LiveIs.cons rfl (LiveIs.cons rfl (LiveIs.cons rfl (LiveIs.cons rfl LiveIs.nil)))))), ((Ent.pull_drop (is := [1, 0, 0, 0, 0]) rfl).trans (Ent.cons (Ent.of_eq (congrArg (row b24 103) (bx_set (some (b8, (p0 :: pr)[i]))))) (own_bx_set hx2)))⟩
            ·
              have hno := bx_none2 h55
              have hw := wstep_some hcond (pt := bs.map Bx.pay) (fun c hc => by rw [List.getElem?_map, List.getElem?_eq_getElem hx2, hno] at hc; cases hc)
              refine RD.OP rfl rfl rfl rfl ?_
              refine RD.OP rfl rfl rfl rfl ?_
              refine RD.OL rfl rfl rfl rfl (Ent.refl _) ?_
              refine RD.OP rfl rfl rfl rfl ?_
              refine RD.OL rfl rfl rfl rfl (Ent.refl _) ?_
              refine RD.OP rfl rfl rfl rfl ?_
              refine RD.OL rfl rfl rfl rfl (Ent.refl _) ?_
              refine RD.OP rfl rfl rfl rfl ?_
              refine RD.OL rfl rfl rfl rfl (Ent.refl _) ?_
              refine RD.OP rfl rfl rfl rfl ?_
              refine RD.pp rfl rfl rfl rfl (p_pick_f rfl rfl (by conv => lhs; whnf)) ?_
              refine RD.nil ?_
              refine hK21 _ _ ?_
              refine T.cond_f rfl ?_
              refine T.skip ?_
              refine hK20 _ _ ?_
              refine T.region (l := [0, 1, 2, 3, 4, 5]) rfl ?_
              refine RN.qq rfl rfl rfl rfl (PRun.q (p_move rfl (by conv => lhs; whnf))) ?_
              refine RN.qq rfl rfl rfl rfl (PRun.q (p_fieldAddr rfl fa_54_5 rfl)) ?_
              refine RN.qq rfl rfl rfl rfl (by first | exact (q_load rfl sc_48 rfl (i := 0) rfl rfl) | exact (q_load rfl sc_48 rfl (i := 1) rfl rfl) | exact (q_load rfl sc_48 rfl (i := 2) rfl rfl) | exact (q_load rfl sc_48 rfl (i := 3) rfl rfl) | exact (q_load rfl sc_48 rfl (i := 4) rfl rfl)) ?_
              refine RN.qq rfl rfl rfl rfl (PRun.q (p_fieldAddr rfl fa_54_7 rfl)) ?_
              refine RN.qq rfl rfl rfl rfl (PRun.q (by first | exact (p_indexAddr1N rfl Try.underlying102 ts_103 rfl rfl (by omega)) | exact (p_indexAddr1 rfl Try.underlying102 ts_103 rfl rfl (by omega)))) ?_
              refine RN.EN rfl rfl rfl (e_store rfl ts_103 rfl (by conv => lhs; whnf) (by first | rfl | assumption) (i := 1) rfl (by rw [List.length_map]; omega)) ?_
              rintro _ _ ⟨rfl, rfl⟩
              refine RN.nil ?_
              refine hK13 _ _ ?_
              refine T.region (l := [0, 1]) rfl ?_
              refine RN.qq rfl rfl rfl rfl (PRun.q (by first | exact (p_addN (b := 1) rfl rfl rfl (by omega)) | exact (p_add rfl rfl rfl (by omega)))) ?_
              refine RN.qq rfl rfl rfl rfl (PRun.q (p_move rfl (by conv => lhs; whnf))) ?_
              refine RN.nil ?_
              refine ⟨(i + 1, bs.set (p0 :: pr)[i].index.toNat (some (b8, (p0 :: pr)[i]))), ⟨by omega, by rw [List.length_set]; exact hbl, by rw [wfold_take hi, hf]; exact hw.trans (by rw [List.map_set]; rfl), bs_set_ok hbs hp.pay⟩, (by show _ - (i + 1) < _ - i; omega), (LiveIs.cons rfl (LiveIs.cons rfl (LiveIs.cons rfl (LiveIs.cons rfl (LiveIs.cons rfl (LiveIs.cons rfl LiveIs.nil)))))), ((Ent.pull_drop (is := [1, 0, 0, 0, 0]) rfl).trans (Ent.cons (Ent.of_eq (congrArg (row b24 103) (bx_set (some (b8, (p0 :: pr)[i]))))) (own_bx_set hx2)))⟩
    ·
      have hi2 : i = (p0 :: pr).length := by omega
      subst hi2
      rw [List.take_length] at hf
      refine T.exit ?_
      refine Post.seq_x ?_
      refine Post.seq_x ?_
      refine Post.block_hit ?_
      refine hK8 _ _ ?_
      refine T.seq fun K23 hK23 => ?_
      refine T.region (l := [0]) rfl ?_
      refine RN.qq rfl rfl rfl rfl (PRun.q (p_assign rfl (by conv => lhs; whnf))) ?_
      refine RN.nil ?_
      refine hK23 _ _ ?_
      refine T.seq fun K24 hK24 => ?_
      refine T.seq fun K25 hK25 => ?_
      refine T.region (l := [0, 1, 2]) rfl ?_
      refine RN.qq rfl rfl rfl rfl (PRun.q (p_move rfl (by conv => lhs; whnf))) ?_
      refine RN.qq rfl rfl rfl rfl (PRun.q (p_len rfl Try.underlying102 rfl)) ?_
      refine RN.qq rfl rfl rfl rfl (PRun.q (p_move rfl (by conv => lhs; whnf))) ?_
      refine RN.nil ?_
      refine hK25 _ _ ?_
      refine T.block ?_
      refine T.loop (G := Nat × Value × List UInt8) (fun ⟨k, v9, bb⟩ => k ≤ (pagesN p0.lba.toNat) ∧ v9.oneCell' = true ∧ allP ((bs.map Bx.pay).take k) = some bb ∧ bb.length = 32 * k) (fun ⟨k, v9, bb⟩ => [(4, u32V p0.lba), (9, v9), (73, slc b24 0 (pagesN p0.lba.toNat) (pagesN p0.lba.toNat)), (74, intV (pagesN p0.lba.toNat)), (75, intV k)]) (fun ⟨k, v9, bb⟩ => [vec 5 1 v9 bb.length (bb.map u8V), row b24 103 (bs.map Bx.ptr), sep (bs.map (Bx.own 54)), A, Fr]) (fun ⟨k, v9, bb⟩ => (pagesN p0.lba.toNat) - k) (0, .slice none 0 0, []) ⟨Nat.zero_le _, rfl, rfl, rfl⟩ (LiveIs.cons rfl (LiveIs.cons rfl (LiveIs.cons rfl (LiveIs.cons rfl (LiveIs.cons rfl LiveIs.nil))))) (Ent.vec_nil' (el := 5) (sz := 1)) ?_
      rintro ⟨k, v9, bb⟩ e26 ⟨hkl, hv9, hall, hbb⟩
      dsimp only
      refine T.seq fun K27 hK27 => ?_
      refine T.region (l := [0]) rfl ?_
      refine RN.qq rfl rfl rfl rfl (PRun.q (p_lss rfl rfl rfl)) ?_
      refine RN.nil ?_
      refine hK27 _ _ ?_
      refine T.seq fun K28 hK28 => ?_
      first | refine T.cond_dec rfl (fun h76 => ?_) (fun h76 => ?_) | refine T.cond rfl (fun h76 => ?_) (fun h76 => ?_)
      ·
        have hk : k < bs.length := by omega
        refine T.skip ?_
        refine hK28 _ _ ?_
        refine T.seq fun K29 hK29 => ?_
        refine T.block ?_
        refine T.seq fun K30 hK30 => ?_
        refine T.region (l := [0, 1, 2]) rfl ?_
        refine RN.qq rfl rfl rfl rfl (PRun.q (by first | exact (p_indexAddr1N rfl Try.underlying102 ts_103 rfl rfl (by omega)) | exact (p_indexAddr1 rfl Try.underlying102 ts_103 rfl rfl (by omega)))) ?_
        refine RN.qq rfl rfl rfl rfl (q_load rfl sc_103 rfl (i := 1) rfl (bx_get hk)) ?_
        refine RN.qq rfl rfl rfl rfl (PRun.q (p_assign rfl (by conv => lhs; whnf))) ?_
        refine RN.nil ?_
        refine hK30 _ _ ?_
        refine T.seq fun K31 hK31 => ?_
        refine T.seq fun K32 hK32 => ?_
        refine T.region (l := [0, 1]) rfl ?_
        refine RN.qq rfl rfl rfl rfl (PRun.q (p_move rfl (by conv => lhs; whnf))) ?_
        refine RN.qq rfl rfl rfl rfl (PRun.q (p_ptreql_nil rfl rfl rfl Try.underlying103)) ?_
        refine RN.nil ?_
        refine hK32 _ _ ?_
        first | refine T.cond_dec rfl (fun h80 => ?_) (fun h80 => ?_) | refine T.cond rfl (fun h80 => ?_) (fun h80 => ?_)
        ·
          have hno := bx_none h80
          refine T.seq fun K33 hK33 => ?_
          refine T.region (l := [0, 1]) rfl ?_
          refine RN.qq rfl rfl rfl rfl (PRun.q (p_assign rfl (by conv => lhs; whnf))) ?_
          refine RN.qq rfl rfl rfl rfl (PRun.q (p_assign rfl (by conv => lhs; whnf))) ?_
          refine RN.nil ?_
          refine hK33 _ _ ?_
          refine T.ret ?_
          refine Post.seq_r ?_
          refine Post.block_r ?_
          refine Post.seq_r ?_
          refine Post.seq_r ?_
          refine Post.block_r ?_
          refine Post.seq_r ?_
          refine bodyQ_ret [A] (RetRun.tmp (RetRun.tmp RetRun.nil)) (WholeQ_none (by rw [wholeL_fold hbig hf]; exact wholeT_dead (allP_dead (k := k) (by rw [List.length_map]; exact hk) (by rw [List.getElem_map, hno]; rfl)))) (Ent.pull_drop (is := [3, 3]) rfl)
        ·
          obtain ⟨b1, p1, hb1⟩ := bx_some2 h80
          have hp1 : p1.pay.length = 32 := hbs _ _ _ (List.getElem_mem hk) hb1
          rw [hb1]
          refine T.skip ?_
          refine hK31 _ _ ?_
          refine T.region (l := [0, 1, 2, 3, 4, 5]) rfl ?_
          refine RN.qq rfl rfl rfl rfl (PRun.q (p_move rfl (by conv => lhs; whnf))) ?_
          refine RN.qq rfl rfl rfl rfl (PRun.q (p_move rfl (by conv => lhs; whnf))) ?_
          refine RN.qq rfl rfl rfl rfl (PRun.q (p_nilCheck rfl rfl)) ?_
          refine RN.qq rfl rfl rfl rfl (PRun.q (by first | exact (p_slice_a_all rfl Try.underlying52 ts_5 rfl) | exact (p_sliceN_a (l := 0) rfl Try.underlying52 ts_5 rfl rfl rfl (by omega)) | exact (p_slice_a rfl Try.underlying52 ts_5 rfl rfl rfl (by omega)))) ?_
          refine RN.E rfl rfl rfl rfl (e_append rfl Try.underlying49 ni_49 ti_5 rfl rfl (i := 0) rfl (Src.ent (Ent.inside (i := 2) rfl (own_bx hk hb1)) (src_row (n := 32) (i := 0) rfl (by rw [Pg.cells_length hp1]; omega) (pay_cells hp1))) one_u8 (by omega)) ?_
          rintro v85 _ ⟨hv85, rfl⟩
          refine RN.qq rfl rfl rfl rfl (PRun.q (p_assign rfl (by conv => lhs; whnf))) ?_
          refine RN.nil ?_
          refine hK29 _ _ ?_
          refine T.region (l := [0, 1]) rfl ?_
          refine RN.qq rfl rfl rfl rfl (PRun.q (by first | exact (p_addN (b := 1) rfl rfl rfl (by omega)) | exact (p_add rfl rfl rfl (by omega)))) ?_
          refine RN.qq rfl rfl rfl rfl (PRun.q (p_move rfl (by conv => lhs; whnf))) ?_
          refine RN.nil ?_
          refine ⟨(k + 1, v85, bb ++ p1.pay), ⟨by omega, hv85, allP_take (by rw [List.length_map]; exact hk) hall (by rw [List.getElem_map, hb1]; rfl), by rw [List.length_append]; omega⟩, (by simp; omega), (LiveIs.cons rfl (LiveIs.cons rfl (LiveIs.cons rfl (LiveIs.cons rfl (LiveIs.cons rfl LiveIs.nil))))), (Ent.of_eq (by simp only [setN]; rw [List.length_append, List.map_append, hp1]))⟩
      ·
        have hk : k = (pagesN p0.lba.toNat) := by omega
        subst hk
        rw [List.take_of_length_le (by rw [List.length_map]; omega)] at hall
        refine T.exit ?_
        refine Post.seq_x ?_
        refine Post.seq_x ?_
        refine Post.block_hit ?_
        refine hK24 _ _ ?_
        refine T.seq fun K34 hK34 => ?_
        refine T.seq fun K35 hK35 => ?_
        refine T.openVec 0 rfl (by omega) ?_
        rintro b9 cap9 rest9 rfl hq1 hq2 hq3
        refine T.region (l := [0, 1, 2, 3, 4]) rfl ?_
        refine RN.qq rfl rfl rfl rfl (PRun.q (p_move rfl (by conv => lhs; whnf))) ?_
        refine RN.qq rfl rfl rfl rfl (PRun.q (p_move rfl (by conv => lhs; whnf))) ?_
        refine RN.qq rfl rfl rfl rfl (PRun.q (run_sliceAny (l := p0.lba.toNat) (h := bb.length) rfl Try.underlying49 ts_5 rfl (congrArg some (Int.toNat_of_nonneg hl0).symm) rfl ⟨by omega, hq1⟩)) ?_
        refine RN.qq rfl rfl rfl rfl (PRun.q (p_len rfl Try.underlying49 rfl)) ?_
        refine RN.qq rfl rfl rfl rfl (PRun.q (p_move rfl (by conv => lhs; whnf))) ?_
        refine RN.nil ?_
        refine hK35 _ _ ?_
        refine T.block ?_
        refine T.loop (G := Nat) (fun j => j ≤ bb.length - p0.lba.toNat ∧ ∀ x ∈ (bb.drop p0.lba.toNat).take j, x = 0) (fun j => [(4, u32V p0.lba), (9, slc b9 0 bb.length cap9), (89, subSl 1 (slc b9 0 bb.length cap9) p0.lba.toNat bb.length), (90, intV (bb.length - p0.lba.toNat)), (91, intV j)]) (fun j => [row b9 5 (bb.map u8V ++ rest9), A, Fr]) (fun j => bb.length - p0.lba.toNat - j) 0 ⟨Nat.zero_le _, fun x hx => by simp at hx⟩ (LiveIs.cons rfl (LiveIs.cons rfl (LiveIs.cons rfl (LiveIs.cons rfl (LiveIs.cons rfl LiveIs.nil))))) (Ent.pull_drop (is := [0, 2, 2]) rfl) ?_
        rintro j e36 ⟨hjj, hzz⟩
        refine T.seq fun K37 hK37 => ?_
        refine T.region (l := [0]) rfl ?_
        refine RN.qq rfl rfl rfl rfl (PRun.q (p_lss rfl rfl rfl)) ?_
        refine RN.nil ?_
        refine hK37 _ _ ?_
        refine T.seq fun K38 hK38 => ?_
        first | refine T.cond_dec rfl (fun h92 => ?_) (fun h92 => ?_) | refine T.cond rfl (fun h92 => ?_) (fun h92 => ?_)
        ·
          have hj : j < bb.length - p0.lba.toNat := by omega
          have hjl : p0.lba.toNat + j < bb.length := by omega
          have hsub : subSl 1 (slc b9 0 bb.length cap9) p0.lba.toNat bb.length = slc b9 p0.lba.toNat (bb.length - p0.lba.toNat) (cap9 - p0.lba.toNat) := subSl_slc (by omega)
          rw [hsub]
          refine T.skip ?_
          refine hK38 _ _ ?_
          refine T.seq fun K39 hK39 => ?_
          refine T.block ?_
          refine T.seq fun K40 hK40 => ?_
          refine T.region (l := [0, 1, 2]) rfl ?_
          refine RN.qq rfl rfl rfl rfl (PRun.q (by first | exact (p_indexAddr1N rfl Try.underlying49 ts_5 rfl rfl (by omega)) | exact (p_indexAddr1 rfl Try.underlying49 ts_5 rfl rfl (by omega)))) ?_
          refine RN.qq rfl rfl rfl rfl (q_load rfl sc_5 rfl (i := 0) rfl (by rw [List.getElem?_append_left (by simp; omega), List.getElem?_map, List.getElem?_eq_getElem hjl]; rfl)) ?_
          refine RN.qq rfl rfl rfl rfl (PRun.q (p_assign rfl (by conv => lhs; whnf))) ?_
          refine RN.nil ?_
          refine hK40 _ _ ?_
          refine T.seq fun K41 hK41 => ?_
          refine T.region (l := [0, 1]) rfl ?_
          refine RN.qq rfl rfl rfl rfl (PRun.q (p_move rfl (by conv => lhs; whnf))) ?_
          refine RN.qq rfl rfl rfl rfl (PRun.q (p_neq rfl rfl rfl)) ?_
          refine RN.nil ?_
          refine hK41 _ _ ?_
          first | refine T.cond_dec rfl (fun h96 => ?_) (fun h96 => ?_) | refine T.cond rfl (fun h96 => ?_) (fun h96 => ?_)
          ·
            have hnz : ¬ bb[p0.lba.toNat + j] = 0 := fun hz => h96 (by rw [hz]; rfl)
            refine T.seq fun K42 hK42 => ?_
            refine T.region (l := [0, 1]) rfl ?_
            refine RN.qq rfl rfl rfl rfl (PRun.q (p_assign rfl (by conv => lhs; whnf))) ?_
            refine RN.qq rfl rfl rfl rfl (PRun.q (p_assign rfl (by conv => lhs; whnf))) ?_
            refine RN.nil ?_
            refine hK42 _ _ ?_
            refine T.ret ?_
            refine Post.block_r ?_
            refine Post.seq_r ?_
            refine Post.seq_r ?_
            refine Post.block_r ?_
            refine Post.seq_r ?_
            refine bodyQ_ret [A] (RetRun.tmp (RetRun.tmp RetRun.nil)) (WholeQ_none (by rw [wholeL_fold hbig hf]; exact wholeT_bad hall (fun hh => hnz (hh _ (mem_drop_at hjl))))) (Ent.pull_drop (is := [1, 1]) rfl)
          ·
            have hz : bb[p0.lba.toNat + j] = 0 := UInt8.toNat_inj.1 (by have h97 := Classical.not_not.1 h96; exact Int.ofNat.inj h97)
            refine T.skip ?_
            refine hK39 _ _ ?_
            refine T.region (l := [0, 1]) rfl ?_
            refine RN.qq rfl rfl rfl rfl (PRun.q (by first | exact (p_addN (b := 1) rfl rfl rfl (by omega)) | exact (p_add rfl rfl rfl (by omega)))) ?_
            refine RN.qq rfl rfl rfl rfl (PRun.q (p_move rfl (by conv => lhs; whnf))) ?_
            refine RN.nil ?_
            refine ⟨j + 1, ⟨by omega, zero_ext hjl hzz hz⟩, (by omega), (LiveIs.cons rfl (LiveIs.cons rfl (LiveIs.cons hsub.symm (LiveIs.cons rfl (LiveIs.cons rfl LiveIs.nil))))), Ent.refl _⟩
        ·
          have hj : j = bb.length - p0.lba.toNat := by omega
          have hz0 : ∀ x ∈ bb.drop p0.lba.toNat, x = 0 := fun x hx => hzz x (by rw [List.take_of_length_le (by rw [List.length_drop]; omega)]; exact hx)
          refine T.exit ?_
          refine Post.seq_x ?_
          refine Post.seq_x ?_
          refine Post.block_hit ?_
          refine hK34 _ _ ?_
          refine T.seq fun K43 hK43 => ?_
          refine T.region (l := [0, 1, 2, 3, 4, 5]) rfl ?_
          refine RN.qq rfl rfl rfl rfl (PRun.q (p_move rfl (by conv => lhs; whnf))) ?_
          refine RN.qq rfl rfl rfl rfl (PRun.q (p_move rfl (by conv => lhs; whnf))) ?_
          refine RN.qq rfl rfl rfl rfl (PRun.q (p_slice_hi (h := p0.lba.toNat) rfl Try.underlying49 ts_5 rfl (congrArg (Value.int .u32) (Int.toNat_of_nonneg hl0).symm) (by omega))) ?_
          refine RN.C [0] rfl rfl rfl rfl (c_call rfl rfl) (SClone_spec b9 0 p0.lba.toNat cap9 (bb.map u8V ++ rest9) (bb.take p0.lba.toNat) (by simp; omega) (by rw [List.drop_zero, List.take_append_of_le_length (by simp; omega), List.map_take]) (by omega)) rfl ?_
          rintro v101 _ ⟨hv101, rfl⟩
          refine RN.qq rfl rfl rfl rfl (PRun.q (p_assign rfl (by conv => lhs; whnf))) ?_
          refine RN.qq rfl rfl rfl rfl (PRun.q (p_assign rfl (by conv => lhs; whnf))) ?_
          refine RN.nil ?_
          refine hK43 _ _ ?_
          refine T.ret ?_
          have hfin : wholeL (p0 :: pr) = some (bb.take p0.lba.toNat) := by
            rw [wholeL_fold hbig hf]
            exact wholeT_some hall hz0
          have hLl : (bb.take p0.lba.toNat).length = p0.lba.toNat := by rw [List.length_take]; omega
          refine bodyQ_ret [vec 5 1 v101 (bb.take p0.lba.toNat).length ((bb.take p0.lba.toNat).map u8V), A] (RetRun.tmp (RetRun.tmp RetRun.nil)) (WholeQ_some hfin hv101) ?_
          rw [hLl]
          exact Ent.pull_drop (is := [0, 1, 1]) rfl

end Go.Proofs.Yticfabhcfdmbjaa
