/-
 The reference: walked.
-/
import Derived.Test.YtbbgajjonodlfaaGreatGYvR5
import Derived.Test.YtbbgajjonodlfaaGreatGModelVo
set_option linter.unusedVariables false
set_option linter.unusedSimpArgs false
namespace Go.Proofs.YtbbgajjonodlfaaGreat
open Go Go.Sl Go.Proofs
set_option maxRecDepth 20000
open Go.Mo Go.Evl
theorem four_one (s : List UInt8) (a b c : Int) : ∀ u ∈ [strV s, Value.int .i64 a, Value.int .i64 b, Value.int .i64 c], u.oneCell' = true := by
 intro u hu
 simp only [List.mem_cons, List.not_mem_nil, or_false] at hu
 rcases hu with rfl | rfl | rfl | rfl <;> rfl

theorem Rroom_spec (t : List UInt8) (c : Nat) (es : List VE) (n : Nat) (h : Go.Mo.Clean c es t) (hn : 1 ≤ n ∧ n ≤ 512) : Ctr Tryz.prog 57 [strV t, intV n] [] (fun v Ps => ∃ vs : List Value, vs.length = 4 ∧ (∀ u ∈ vs, u.oneCell' = true) ∧ v = .tuple #[.agg vs.toArray, .bool (decide (0 ≤ freeZ es ∧ roomAt es n + n ≤ c))] ∧ ((0 ≤ freeZ es ∧ roomAt es n + n ≤ c) → vs = [strV [], intV (roomAt es n), intV n, .int .i64 (freeZ es)]) ∧ Ps = []) := by
 refine Ctr.of_body Tryz.func57 rfl (by kernel_rfl) Tryz.ntmps57 rfl rfl (fun Fr => ?_)
 have ht := h.tl
 have hc := h.c9
 have hlen := h.v.len
 have hcap := cap_of ht
 have hrl := rv_len c t 8
 refine T.seq fun K1 hK1 => ?_
 refine T.region (l := [0, 1]) rfl ?_
 refine RN.E rfl rfl rfl rfl (e_alloc rfl ti_79) ?_
 rintro _ _ ⟨b4, rfl, rfl⟩
 refine RN.a rfl ?_
 refine RN.nil ?_
 refine hK1 _ _ ?_
 refine T.seq fun K2 hK2 => ?_
 refine T.region (l := [0, 1, 2]) rfl ?_
 refine RN.m rfl ?_
 refine RN.C [] rfl rfl rfl rfl (c_call rfl rfl) (RVolumes_spec t c ht hc) rfl ?_
 rintro v17 _ ⟨hv17, rfl⟩
 refine RN.a rfl ?_
 refine RN.nil ?_
 refine hK2 _ _ ?_
 refine T.seq fun K3 hK3 => ?_
 refine T.region (l := [0, 1, 2, 3]) rfl ?_
 refine RN.m rfl ?_
 refine RN.C [] rfl rfl rfl rfl (c_call rfl rfl) (Cap_spec t (by omega)) rfl ?_
 rintro _ _ ⟨rfl, rfl⟩
 rw [hcap]
 refine RN.E rfl rfl rfl rfl (by exact (e_makeSliceN rfl Tryz.underlying47 ti_4 rfl rfl rfl (by omega))) ?_
 rintro _ _ ⟨b20, rfl, rfl⟩
 refine RN.a rfl ?_
 refine RN.nil ?_
 refine hK3 _ _ ?_
 refine T.seq fun K4 hK4 => ?_
 refine T.region (l := [0, 1]) rfl ?_
 refine RN.E rfl rfl rfl rfl (by exact (e_makeSliceN (n := 8) (c := 8) rfl Tryz.underlying47 ti_4 rfl rfl rfl (by omega))) ?_
 rintro _ _ ⟨b21, rfl, rfl⟩
 refine RN.a rfl ?_
 refine RN.nil ?_
 refine hK4 _ _ ?_
 refine T.seq fun K5 hK5 => ?_
 refine T.seq fun K6 hK6 => ?_
 refine T.ent (Hs' := [row b21 4 (usT (fun _ => false) 8), row b20 4 (usT (fun _ => false) c), vec 79 4 v17 (rvE c t 8).length (flR (rvE c t 8)), row b4 79 (rcE (VE.zero, 0)), Fr]) (by rw [← usT_zero, ← usT_zero]; exact Ent.refl _) ?_
 refine T.region (l := [0]) rfl ?_
 refine RN.a rfl ?_
 refine RN.nil ?_
 refine hK6 _ _ ?_
 refine T.block ?_
 refine T.loop (G := Nat × (Nat → Bool) × (Nat → Bool)) (fun ⟨i, f, g⟩ => i ≤ (rvE c t 8).length ∧ (∀ p, p < c → (f p = true ↔ cvR (rvE c t 8) i p)) ∧ (∀ q, q < 8 → (g q = true ↔ tkR (rvE c t 8) i q))) (fun ⟨i, f, g⟩ => [(0, strV t), (1, intV n), (4, ptr b4 0), (7, slc b20 0 c c), (8, slc b21 0 8 8), (6, v17), (9, intV i)]) (fun ⟨i, f, g⟩ => [row b21 4 (usT g 8), row b20 4 (usT f c), vec 79 4 v17 (rvE c t 8).length (flR (rvE c t 8)), row b4 79 (rcE (VE.zero, 0)), Fr]) (fun ⟨i, f, g⟩ => (rvE c t 8).length - i) (0, fun _ => false, fun _ => false) ⟨Nat.zero_le _, (fun p _ => ⟨(fun h => by cases h), fun ⟨j, _, h, _⟩ => absurd h (Nat.not_lt_zero _)⟩), fun p _ => ⟨(fun h => by cases h), fun ⟨j, _, h, _⟩ => absurd h (Nat.not_lt_zero _)⟩⟩ (LiveIs.cons rfl (LiveIs.cons rfl (LiveIs.cons rfl (LiveIs.cons rfl (LiveIs.cons rfl (LiveIs.cons rfl (LiveIs.cons rfl LiveIs.nil))))))) (Ent.refl _) ?_
 rintro ⟨i, f, g⟩ e7 ⟨hik, hf, hg⟩
 dsimp only
 refine T.seq fun K8 hK8 => ?_
 refine T.seq fun K9 hK9 => ?_
 refine T.region (l := [0, 1, 2, 3]) rfl ?_
 refine RN.m rfl ?_
 refine RN.m rfl ?_
 refine RN.u rfl (q_len_vec rfl Tryz.underlying76 rfl (i := 2) rfl) ?_
 refine RN.p rfl (p_lss rfl rfl rfl) ?_
 refine RN.nil ?_
 refine hK9 _ _ ?_
 refine T.cond_dec rfl (fun h25 => ?_) (fun h25 => ?_)
 ·
  have hi : i < (rvE c t 8).length := by omega
  obtain ⟨hi8, _, hil⟩ := rv_get hi
  have hio := (rv_ok hi).2.2.2
  refine T.skip ?_
  refine hK8 _ _ ?_
  refine T.seq fun K10 hK10 => ?_
  refine T.block ?_
  refine T.seq fun K11 hK11 => ?_
  refine T.openVec 2 rfl (by omega) ?_
  rintro bw capw restw rfl hw1 hw2 hw3
  refine T.region (l := [0, 1, 2, 3, 4, 5, 6, 7]) rfl ?_
  refine RN.m rfl ?_
  refine RN.m rfl ?_
  refine RN.m rfl ?_
  refine RN.p rfl (by exact (p_indexAddrN rfl Tryz.underlying76 ts_79 rfl rfl (by omega))) ?_
  refine RN.p rfl (p_fieldAddr rfl fa_79_3 rfl) ?_
  refine RN.u rfl (by exact (q_load rfl sc_3 rfl (i := 2) rfl (flR_atK (k := 3) hi rfl))) ?_
  refine RN.p rfl (by exact (p_indexAddr1N rfl Tryz.underlying47 ts_4 rfl rfl (by omega))) ?_
  refine RN.EN rfl rfl rfl (by exact (e_store rfl ts_4 rfl (by conv => lhs; whnf) (by rfl) (i := 0) rfl (by rw [usT_length]; omega))) ?_
  rintro _ _ ⟨rfl, rfl⟩
  refine RN.nil ?_
  refine hK11 _ _ ?_
  refine T.seq fun K12 hK12 => ?_
  refine T.ent (Ent.rowEq (usT_set g 8 ((rvE c t 8)[i].2))) ?_
  refine T.region (l := [0]) rfl ?_
  refine RN.a rfl ?_
  refine RN.nil ?_
  refine hK12 _ _ ?_
  refine T.block ?_
  refine T.loop (G := Nat × (Nat → Bool)) (fun ⟨k, f2⟩ => k ≤ (rvE c t 8)[i].1.len ∧ (∀ p, p < c → (f2 p = true ↔ cvR (rvE c t 8) i p ∨ ((rvE c t 8)[i].1.first ≤ p ∧ p < (rvE c t 8)[i].1.first + k)))) (fun ⟨k, f2⟩ => [(0, strV t), (1, intV n), (4, ptr b4 0), (7, slc b20 0 c c), (8, slc b21 0 8 8), (6, slc bw 0 (rvE c t 8).length capw), (9, intV i), (10, intV k)]) (fun ⟨k, f2⟩ => [row b20 4 (usT f2 c), row b21 4 (usT (fun p => decide (p = (rvE c t 8)[i].2) || g p) 8), row bw 79 (flR (rvE c t 8) ++ restw), row b4 79 (rcE (VE.zero, 0)), Fr]) (fun ⟨k, f2⟩ => (rvE c t 8)[i].1.len - k) (0, f) ⟨Nat.zero_le _, fun p hp => by rw [hf p hp]; exact ⟨.inl, fun h => h.elim id fun h => by omega⟩⟩ (LiveIs.cons rfl (LiveIs.cons rfl (LiveIs.cons rfl (LiveIs.cons rfl (LiveIs.cons rfl (LiveIs.cons rfl (LiveIs.cons rfl (LiveIs.cons rfl LiveIs.nil)))))))) (Ent.pull_drop (is := [1, 0, 0, 0, 0]) rfl) ?_
  rintro ⟨k, f2⟩ e13 ⟨hk, hf2⟩
  dsimp only
  refine T.seq fun K14 hK14 => ?_
  refine T.seq fun K15 hK15 => ?_
  refine T.region (l := [0, 1, 2, 3, 4, 5, 6]) rfl ?_
  refine RN.m rfl ?_
  refine RN.m rfl ?_
  refine RN.m rfl ?_
  refine RN.p rfl (by exact (p_indexAddrN rfl Tryz.underlying76 ts_79 rfl rfl (by omega))) ?_
  refine RN.p rfl (p_fieldAddr rfl fa_79_2 rfl) ?_
  refine RN.u rfl (by exact (q_load rfl sc_3 rfl (i := 2) rfl (flR_atK (k := 2) hi rfl))) ?_
  refine RN.p rfl (p_lss rfl rfl rfl) ?_
  refine RN.nil ?_
  refine hK15 _ _ ?_
  refine T.cond_dec rfl (fun h41 => ?_) (fun h41 => ?_)
  ·
   refine T.skip ?_
   refine hK14 _ _ ?_
   refine T.seq fun K16 hK16 => ?_
   refine T.block ?_
   refine T.region (l := [0, 1, 2, 3, 4, 5, 6, 7, 8, 9]) rfl ?_
   refine RN.m rfl ?_
   refine RN.m rfl ?_
   refine RN.m rfl ?_
   refine RN.p rfl (by exact (p_indexAddrN rfl Tryz.underlying76 ts_79 rfl rfl (by omega))) ?_
   refine RN.p rfl (p_fieldAddr rfl fa_79_1 rfl) ?_
   refine RN.u rfl (by exact (q_load rfl sc_3 rfl (i := 2) rfl (flR_atK (k := 1) hi rfl))) ?_
   refine RN.m rfl ?_
   refine RN.p rfl (by exact (p_addN rfl rfl rfl (by omega))) ?_
   refine RN.p rfl (by exact (p_indexAddr1N rfl Tryz.underlying47 ts_4 rfl rfl (by omega))) ?_
   refine RN.EN rfl rfl rfl (by exact (e_store rfl ts_4 rfl (by conv => lhs; whnf) (by rfl) (i := 0) rfl (by rw [usT_length]; omega))) ?_
   rintro _ _ ⟨rfl, rfl⟩
   refine RN.nil ?_
   refine hK16 _ _ ?_
   refine T.region (l := [0, 1, 2]) rfl ?_
   refine RN.m rfl ?_
   refine RN.p rfl (by exact (p_addN (b := 1) rfl rfl rfl (by omega))) ?_
   refine RN.a rfl ?_
   refine RN.nil ?_
   refine ⟨(k + 1, fun p => decide (p = (rvE c t 8)[i].1.first + k) || f2 p), ⟨by omega, fun p hp => by
    rw [or_dec, hf2 p hp]
    constructor
    ·
     rintro (h | h | h)
     · exact .inr (by omega)
     · exact .inl h
     · exact .inr (by omega)
    ·
     rintro (h | h)
     · exact .inr (.inl h)
     ·
      by_cases e : p = (rvE c t 8)[i].1.first + k
      · exact .inl e
      · exact .inr (.inr (by omega))⟩, (by simp; omega), (LiveIs.cons rfl (LiveIs.cons rfl (LiveIs.cons rfl (LiveIs.cons rfl (LiveIs.cons rfl (LiveIs.cons rfl (LiveIs.cons rfl (LiveIs.cons rfl LiveIs.nil)))))))), (Ent.rowEq (usT_set _ _ _))⟩
  ·
   refine T.exit ?_
   refine Post.seq_x ?_
   refine Post.seq_x ?_
   refine Post.block_hit ?_
   refine hK10 _ _ ?_
   refine T.region (l := [0, 1, 2]) rfl ?_
   refine RN.m rfl ?_
   refine RN.p rfl (by exact (p_addN (b := 1) rfl rfl rfl (by omega))) ?_
   refine RN.a rfl ?_
   refine RN.nil ?_
   refine ⟨(i + 1, f2, fun p => decide (p = (rvE c t 8)[i].2) || g p), ⟨by omega, (fun p hp => by rw [cvR_succ hi, hf2 p hp, show k = (rvE c t 8)[i].1.len by omega]), fun q hq => by rw [tkR_succ hi, or_dec, hg q hq, Or.comm, eq_comm]⟩, (by simp; omega), (LiveIs.cons rfl (LiveIs.cons rfl (LiveIs.cons rfl (LiveIs.cons rfl (LiveIs.cons rfl (LiveIs.cons rfl (LiveIs.cons rfl LiveIs.nil))))))), ((Ent.pull_drop (is := [1, 0, 0, 0, 0]) rfl).trans (Ent.cons (Ent.refl _) (Ent.cons (Ent.refl _) (Ent.cons (vec_of_row (flR_length _) hw1 hw2 hw3) (Ent.refl _)))))⟩
 ·
  obtain rfl : i = (rvE c t 8).length := by omega
  refine T.exit ?_
  refine Post.seq_x ?_
  refine Post.seq_x ?_
  refine Post.block_hit ?_
  refine hK5 _ _ ?_
  refine T.seq fun K17 hK17 => ?_
  refine T.region (l := [0, 1, 2, 3]) rfl ?_
  refine RN.m rfl ?_
  refine RN.p rfl (p_build rfl pl_79 ti_79 (by dsimp [layAll, lay]; rfl)) ?_
  refine RN.E rfl rfl rfl rfl (e_alloc rfl ti_79) ?_
  rintro _ _ ⟨b11, rfl, rfl⟩
  refine RN.EN rfl rfl rfl (by exact (e_storeA rfl ts_79 rfl rfl rfl (four_one [] 0 (n : Int) (-1)) (i := 0) rfl (by (simp; done)))) ?_
  rintro _ _ ⟨rfl, rfl⟩
  refine RN.nil ?_
  refine hK17 _ _ ?_
  refine T.seq fun K18 hK18 => ?_
  refine T.seq fun K19 hK19 => ?_
  refine T.region (l := [0]) rfl ?_
  refine RN.a rfl ?_
  refine RN.nil ?_
  refine hK19 _ _ ?_
  refine T.block ?_
  refine T.loop (G := Nat × Int) (fun ⟨k, z⟩ => k ≤ 8 ∧ AtQ g k z) (fun ⟨k, z⟩ => [(0, strV t), (1, intV n), (4, ptr b4 0), (7, slc b20 0 c c), (8, slc b21 0 8 8), (11, ptr b11 0), (12, .int .i64 ((k : Int) - 1))]) (fun ⟨k, z⟩ => [row b11 79 [strV [], intV 0, intV n, .int .i64 z], row b21 4 (usT g 8), row b20 4 (usT f c), row b4 79 (rcE (VE.zero, 0)), Fr]) (fun ⟨k, z⟩ => k) (8, -1) ⟨Nat.le_refl _, .inl ⟨rfl, fun q h1 h2 => by omega⟩⟩ (LiveIs.cons rfl (LiveIs.cons rfl (LiveIs.cons rfl (LiveIs.cons rfl (LiveIs.cons rfl (LiveIs.cons rfl (LiveIs.cons rfl LiveIs.nil))))))) ((Ent.pull_drop (is := [0, 0, 0, 1, 1]) rfl).trans (Ent.rowEq rfl)) ?_
  rintro ⟨k, z⟩ e20 ⟨hk, hz⟩
  dsimp only
  refine T.seq fun K21 hK21 => ?_
  refine T.seq fun K22 hK22 => ?_
  refine T.region (l := [0, 1]) rfl ?_
  refine RN.m rfl ?_
  refine RN.p rfl (p_geq rfl rfl rfl) ?_
  refine RN.nil ?_
  refine hK22 _ _ ?_
  refine T.cond_dec rfl (fun h56 => ?_) (fun h56 => ?_)
  ·
   obtain ⟨k, rfl⟩ := Nat.exists_eq_add_of_le' (show 1 ≤ k by omega)
   refine T.known 12 rfl (show _ = intV k from congrArg (Value.int .i64) (by omega)) ?_
   refine T.skip ?_
   refine hK21 _ _ ?_
   refine T.seq fun K23 hK23 => ?_
   refine T.block ?_
   refine T.seq fun K24 hK24 => ?_
   refine T.region (l := [0, 1, 2, 3, 4]) rfl ?_
   refine RN.m rfl ?_
   refine RN.m rfl ?_
   refine RN.p rfl (by exact (p_indexAddr1N rfl Tryz.underlying47 ts_4 rfl rfl (by omega))) ?_
   refine RN.u rfl (by exact (q_load rfl sc_4 rfl (i := 1) rfl (usT_get (by omega)))) ?_
   refine RN.p rfl (by exact (p_not rfl rfl)) ?_
   refine RN.nil ?_
   refine hK24 _ _ ?_
   refine T.cond rfl (fun h63 => ?_) (fun h63 => ?_)
   ·
    have hgk : g k = false := by simpa using h63
    refine T.region (l := [0, 1, 2]) rfl ?_
    refine RN.m rfl ?_
    refine RN.p rfl (p_fieldAddr rfl fa_79_3 rfl) ?_
    refine RN.EN rfl rfl rfl (by exact (e_store rfl ts_3 rfl (by conv => lhs; whnf) (by rfl) (i := 0) rfl (by simp))) ?_
    rintro _ _ ⟨rfl, rfl⟩
    refine RN.nil ?_
    refine hK23 _ _ ?_
    refine T.region (l := [0, 1, 2]) rfl ?_
    refine RN.m rfl ?_
    refine RN.p rfl (by exact (p_sub rfl rfl rfl (by omega))) ?_
    refine RN.a rfl ?_
    refine RN.nil ?_
    refine ⟨(k, (k : Int)), ⟨by omega, .inr ⟨k, rfl, Nat.le_refl _, by omega, hgk, fun p h1 h2 => by omega⟩⟩, (Nat.lt_succ_self _), (LiveIs.cons rfl (LiveIs.cons rfl (LiveIs.cons rfl (LiveIs.cons rfl (LiveIs.cons rfl (LiveIs.cons rfl (LiveIs.cons rfl LiveIs.nil))))))), Ent.refl _⟩
   ·
    have hgk : g k = true := by simpa using h63
    refine T.skip ?_
    refine hK23 _ _ ?_
    refine T.region (l := [0, 1, 2]) rfl ?_
    refine RN.m rfl ?_
    refine RN.p rfl (by exact (p_sub rfl rfl rfl (by omega))) ?_
    refine RN.a rfl ?_
    refine RN.nil ?_
    refine ⟨(k, z), ⟨by omega, hz.down hgk⟩, (Nat.lt_succ_self _), (LiveIs.cons rfl (LiveIs.cons rfl (LiveIs.cons rfl (LiveIs.cons rfl (LiveIs.cons rfl (LiveIs.cons rfl (LiveIs.cons rfl LiveIs.nil))))))), Ent.refl _⟩
  ·
   obtain rfl : k = 0 := by omega
   have hzf : z = freeZ es := h.freeAt hg hz
   refine T.exit ?_
   refine Post.seq_x ?_
   refine Post.seq_x ?_
   refine Post.block_hit ?_
   refine hK18 _ _ ?_
   refine T.seq fun K25 hK25 => ?_
   refine T.seq fun K26 hK26 => ?_
   refine T.region (l := [0]) rfl ?_
   refine RN.a rfl ?_
   refine RN.nil ?_
   refine hK26 _ _ ?_
   refine T.block ?_
   refine T.loop (G := Nat) (fun at_ => 8 ≤ at_ ∧ at_ ≤ c ∧ ∀ k, 8 ≤ k → k < at_ → Go.Mo.Blk es n k) (fun at_ => [(0, strV t), (1, intV n), (4, ptr b4 0), (7, slc b20 0 c c), (11, ptr b11 0), (13, intV at_)]) (fun at_ => [row b11 79 [strV [], intV 0, intV n, .int .i64 z], row b20 4 (usT f c), row b4 79 (rcE (VE.zero, 0)), Fr]) (fun at_ => c - at_) 8 ⟨Nat.le_refl _, by omega, fun k h1 h2 => by omega⟩ (LiveIs.cons rfl (LiveIs.cons rfl (LiveIs.cons rfl (LiveIs.cons rfl (LiveIs.cons rfl (LiveIs.cons rfl LiveIs.nil)))))) (Ent.pull_drop (is := [0, 1, 1, 1]) rfl) ?_
   rintro at_ e27 ⟨h8, hac, hbl⟩
   refine T.seq fun K28 hK28 => ?_
   refine T.seq fun K29 hK29 => ?_
   refine T.region (l := [0, 1, 2, 3, 4, 5, 6, 7, 8, 9, 10]) rfl ?_
   refine RN.p rfl (p_fieldAddr rfl fa_79_3 rfl) ?_
   refine RN.u rfl (by exact (q_load rfl sc_3 rfl (i := 0) rfl rfl)) ?_
   refine RN.p rfl (p_geq rfl rfl rfl) ?_
   refine RN.m rfl ?_
   refine RN.split_dec 69 rfl (fun h69 => ?_) (fun h69 => ?_)
   ·
    refine RN.m rfl ?_
    refine RN.m rfl ?_
    refine RN.p rfl (p_len rfl Tryz.underlying47 rfl) ?_
    refine RN.m rfl ?_
    refine RN.p rfl (by exact (p_subN rfl rfl rfl (by omega))) ?_
    refine RN.p rfl (p_leq rfl rfl rfl) ?_
    refine RN.pt rfl ?_
    refine RN.nil ?_
    refine hK29 _ _ ?_
    refine T.cond_dec rfl (fun h76 => ?_) (fun h76 => ?_)
    ·
     refine T.skip ?_
     refine hK28 _ _ ?_
     refine T.seq fun K30 hK30 => ?_
     refine T.block ?_
     refine T.seq fun K31 hK31 => ?_
     refine T.region (l := [0]) rfl ?_
     refine RN.a rfl ?_
     refine RN.nil ?_
     refine hK31 _ _ ?_
     refine T.seq fun K32 hK32 => ?_
     refine T.seq fun K33 hK33 => ?_
     refine T.region (l := [0]) rfl ?_
     refine RN.a rfl ?_
     refine RN.nil ?_
     refine hK33 _ _ ?_
     refine T.block ?_
     refine T.loop (G := Nat × Bool) (fun ⟨k, b⟩ => k ≤ n ∧ (b = true ↔ ∀ j, j < k → f (at_ + j) = false)) (fun ⟨k, b⟩ => [(0, strV t), (1, intV n), (4, ptr b4 0), (7, slc b20 0 c c), (11, ptr b11 0), (13, intV at_), (14, .bool b), (15, intV k)]) (fun ⟨k, b⟩ => [row b11 79 [strV [], intV 0, intV n, .int .i64 z], row b20 4 (usT f c), row b4 79 (rcE (VE.zero, 0)), Fr]) (fun ⟨k, b⟩ => n - k) (0, true) ⟨Nat.zero_le _, ⟨fun _ j hj => absurd hj (Nat.not_lt_zero _), fun _ => rfl⟩⟩ (LiveIs.cons rfl (LiveIs.cons rfl (LiveIs.cons rfl (LiveIs.cons rfl (LiveIs.cons rfl (LiveIs.cons rfl (LiveIs.cons rfl (LiveIs.cons rfl LiveIs.nil)))))))) (Ent.refl _) ?_
     rintro ⟨k, b⟩ e34 ⟨hk, hb⟩
     dsimp only
     refine T.seq fun K35 hK35 => ?_
     refine T.seq fun K36 hK36 => ?_
     refine T.region (l := [0, 1, 2]) rfl ?_
     refine RN.m rfl ?_
     refine RN.m rfl ?_
     refine RN.p rfl (p_lss rfl rfl rfl) ?_
     refine RN.nil ?_
     refine hK36 _ _ ?_
     refine T.cond_dec rfl (fun h81 => ?_) (fun h81 => ?_)
     ·
      refine T.skip ?_
      refine hK35 _ _ ?_
      refine T.seq fun K37 hK37 => ?_
      refine T.block ?_
      refine T.region (l := [0, 1, 2, 3, 4, 5, 6, 7, 8, 9, 10]) rfl ?_
      refine RN.m rfl ?_
      refine RN.m rfl ?_
      refine RN.split 85 rfl (fun h85 => ?_) (fun h85 => ?_)
      ·
       obtain rfl : b = true := h85
       refine RN.m rfl ?_
       refine RN.m rfl ?_
       refine RN.m rfl ?_
       refine RN.p rfl (by exact (p_addN rfl rfl rfl (by omega))) ?_
       refine RN.p rfl (by exact (p_indexAddr1N rfl Tryz.underlying47 ts_4 rfl rfl (by omega))) ?_
       refine RN.u rfl (by exact (q_load rfl sc_4 rfl (i := 1) rfl (usT_get (by omega)))) ?_
       refine RN.p rfl (by exact (p_not rfl rfl)) ?_
       refine RN.pt rfl ?_
       refine RN.a rfl ?_
       refine RN.nil ?_
       refine hK37 _ _ ?_
       refine T.region (l := [0, 1, 2]) rfl ?_
       refine RN.m rfl ?_
       refine RN.p rfl (by exact (p_addN (b := 1) rfl rfl rfl (by omega))) ?_
       refine RN.a rfl ?_
       refine RN.nil ?_
       refine ⟨(k + 1, !f (at_ + k)), ⟨by omega, ⟨fun h j hj => by
        by_cases e : j = k
        · subst e; simpa using h
        · exact hb.1 rfl j (by omega), fun h => by rw [h k (Nat.lt_succ_self _)]; rfl⟩⟩, (by simp; omega), (LiveIs.cons rfl (LiveIs.cons rfl (LiveIs.cons rfl (LiveIs.cons rfl (LiveIs.cons rfl (LiveIs.cons rfl (LiveIs.cons rfl (LiveIs.cons rfl LiveIs.nil)))))))), Ent.refl _⟩
      ·
       obtain rfl : b = false := h85
       refine RN.no0 rfl ?_
       refine RN.no0 rfl ?_
       refine RN.no0 rfl ?_
       refine RN.no0 rfl ?_
       refine RN.no0 rfl ?_
       refine RN.no0 rfl ?_
       refine RN.no0 rfl ?_
       refine RN.pf rfl ?_
       refine RN.a rfl ?_
       refine RN.nil ?_
       refine hK37 _ _ ?_
       refine T.region (l := [0, 1, 2]) rfl ?_
       refine RN.m rfl ?_
       refine RN.p rfl (by exact (p_addN (b := 1) rfl rfl rfl (by omega))) ?_
       refine RN.a rfl ?_
       refine RN.nil ?_
       refine ⟨(k + 1, false), ⟨by omega, ⟨(fun h => by cases h), fun h => hb.2 fun j hj => h j (by omega)⟩⟩, (by simp; omega), (LiveIs.cons rfl (LiveIs.cons rfl (LiveIs.cons rfl (LiveIs.cons rfl (LiveIs.cons rfl (LiveIs.cons rfl (LiveIs.cons rfl (LiveIs.cons rfl LiveIs.nil)))))))), Ent.refl _⟩
     ·
      have hkn : k = n := by omega
      refine T.exit ?_
      refine Post.seq_x ?_
      refine Post.seq_x ?_
      refine Post.block_hit ?_
      refine hK32 _ _ ?_
      refine T.seq fun K38 hK38 => ?_
      refine T.region (l := [0]) rfl ?_
      refine RN.m rfl ?_
      refine RN.nil ?_
      refine hK38 _ _ ?_
      refine T.cond rfl (fun h94 => ?_) (fun h94 => ?_)
      ·
       obtain rfl : b = true := h94
       have hnb : ¬ Go.Mo.Blk es n at_ := fun hB => by
        obtain ⟨m, hm, hcv⟩ := (h.blk hn.1).1 hB
        have := (hf (at_ + m) (by omega)).2 hcv
        rw [hb.1 rfl m (by omega)] at this
        cases this
       have hFE : FirstE es n at_ := ⟨h8, hnb, hbl⟩
       have hro := hFE.room
       refine T.seq fun K39 hK39 => ?_
       refine T.region (l := [0, 1, 2]) rfl ?_
       refine RN.m rfl ?_
       refine RN.p rfl (p_fieldAddr rfl fa_79_1 rfl) ?_
       refine RN.EN rfl rfl rfl (by exact (e_store rfl ts_3 rfl (by conv => lhs; whnf) (by rfl) (i := 0) rfl (by simp))) ?_
       rintro _ _ ⟨rfl, rfl⟩
       refine RN.nil ?_
       refine hK39 _ _ ?_
       refine T.seq fun K40 hK40 => ?_
       refine T.region (l := [0, 1, 2]) rfl ?_
       refine RN.u rfl (by exact (q_loadA rfl ag_79 ts_79 rfl (i := 0) rfl (by (simp; done)) rfl)) ?_
       refine RN.EN rfl rfl rfl (by exact (e_storeA rfl ts_79 rfl rfl rfl (four_one [] (at_ : Int) (n : Int) z) (i := 2) rfl (by exact Nat.le_refl _))) ?_
       rintro _ _ ⟨rfl, rfl⟩
       refine RN.a rfl ?_
       refine RN.nil ?_
       refine hK40 _ _ ?_
       refine T.ret ?_
       refine Post.block_r ?_
       refine Post.seq_r ?_
       refine Post.seq_r ?_
       refine Post.block_r ?_
       refine Post.seq_r ?_
       refine bodyQ_ret [] (RetRun.cell rfl (load_cellV (vs := [strV [], intV at_, intV n, .int .i64 z]) ag_79 ts_79 (i := 2) rfl (Nat.le_refl 4) rfl) (RetRun.tmp RetRun.nil)) ⟨_, rfl, four_one [] (at_ : Int) (n : Int) z, by rw [decide_eq_true (show 0 ≤ freeZ es ∧ roomAt es n + n ≤ c from ⟨by omega, by omega⟩)]; rfl, fun _ => by rw [hro, hzf], rfl⟩ (Ent.pull_drop (is := [3]) rfl)
      ·
       obtain rfl : b = false := h94
       have hB : Go.Mo.Blk es n at_ := by
        refine (h.blk hn.1).2 (Classical.byContradiction fun hno => ?_)
        have h2 := hb.2 (fun j hj => by
         cases hfj : f (at_ + j) with
         | false => rfl
         | true => exact absurd ⟨j, by omega, (hf (at_ + j) (by omega)).1 hfj⟩ hno)
        cases h2
       refine T.skip ?_
       refine hK30 _ _ ?_
       refine T.region (l := [0, 1, 2]) rfl ?_
       refine RN.m rfl ?_
       refine RN.p rfl (by exact (p_addN (b := 1) rfl rfl rfl (by omega))) ?_
       refine RN.a rfl ?_
       refine RN.nil ?_
       refine ⟨at_ + 1, ⟨by omega, by omega, fun k h1 h2 => by
        by_cases e : k = at_
        · rw [e]; exact hB
        · exact hbl k h1 (by omega)⟩, (by omega), (LiveIs.cons rfl (LiveIs.cons rfl (LiveIs.cons rfl (LiveIs.cons rfl (LiveIs.cons rfl (LiveIs.cons rfl LiveIs.nil)))))), Ent.refl _⟩
    ·
     
     refine T.exit ?_
     refine Post.seq_x ?_
     refine Post.seq_x ?_
     refine Post.block_hit ?_
     refine hK25 _ _ ?_
     refine T.seq fun K41 hK41 => ?_
     refine T.region (l := [0, 1, 2]) rfl ?_
     refine RN.u rfl (by exact (q_loadA rfl ag_79 ts_79 rfl (i := 0) rfl (by (simp; done)) rfl)) ?_
     refine RN.EN rfl rfl rfl (by exact (e_storeA rfl ts_79 rfl rfl rfl (four_one [] 0 (n : Int) z) (i := 2) rfl (by exact Nat.le_refl _))) ?_
     rintro _ _ ⟨rfl, rfl⟩
     refine RN.a rfl ?_
     refine RN.nil ?_
     refine hK41 _ _ ?_
     refine T.ret ?_
     have hge := room_ge h.v hbl h8
     have hno : ¬ (0 ≤ freeZ es ∧ roomAt es n + n ≤ c) := by omega
     refine bodyQ_ret [] (RetRun.cell rfl (load_cellV (vs := [strV [], intV 0, intV n, .int .i64 z]) ag_79 ts_79 (i := 2) rfl (Nat.le_refl 4) rfl) (RetRun.tmp RetRun.nil)) ⟨_, rfl, four_one [] 0 (n : Int) z, by rw [decide_eq_false hno]; rfl, fun h => absurd h hno, rfl⟩ (Ent.pull_drop (is := [3]) rfl)
   ·
    refine RN.no0 rfl ?_
    refine RN.no0 rfl ?_
    refine RN.no0 rfl ?_
    refine RN.no0 rfl ?_
    refine RN.no0 rfl ?_
    refine RN.no0 rfl ?_
    refine RN.pf rfl ?_
    refine RN.nil ?_
    refine hK29 _ _ ?_
    refine T.cond_f rfl ?_
    refine T.exit ?_
    refine Post.seq_x ?_
    refine Post.seq_x ?_
    refine Post.block_hit ?_
    refine hK25 _ _ ?_
    refine T.seq fun K42 hK42 => ?_
    refine T.region (l := [0, 1, 2]) rfl ?_
    refine RN.u rfl (by exact (q_loadA rfl ag_79 ts_79 rfl (i := 0) rfl (by (simp; done)) rfl)) ?_
    refine RN.EN rfl rfl rfl (by exact (e_storeA rfl ts_79 rfl rfl rfl (four_one [] 0 (n : Int) z) (i := 2) rfl (by exact Nat.le_refl _))) ?_
    rintro _ _ ⟨rfl, rfl⟩
    refine RN.a rfl ?_
    refine RN.nil ?_
    refine hK42 _ _ ?_
    refine T.ret ?_
    have hge := room_ge h.v hbl h8
    have hno : ¬ (0 ≤ freeZ es ∧ roomAt es n + n ≤ c) := by omega
    refine bodyQ_ret [] (RetRun.cell rfl (load_cellV (vs := [strV [], intV 0, intV n, .int .i64 z]) ag_79 ts_79 (i := 2) rfl (Nat.le_refl 4) rfl) (RetRun.tmp RetRun.nil)) ⟨_, rfl, four_one [] 0 (n : Int) z, by rw [decide_eq_false hno]; rfl, fun h => absurd h hno, rfl⟩ (Ent.pull_drop (is := [3]) rfl)

end Go.Proofs.YtbbgajjonodlfaaGreat
namespace Go.Proofs.YtbbgajjonodlfaaGreat
open Go Go.Sl Go.Proofs
set_option maxRecDepth 20000
open Go.Mo Go.Evl
theorem RCreate_spec (t : List UInt8) (c : Nat) (es : List VE) (h : Go.Mo.Clean c es t) (name : List UInt8) (n : Int) : Ctr Tryz.prog 36 [strV t, strV name, .int .i64 n] [] (fun v Ps => v = .tuple #[strV (creV c es t name n).2.2, .int .i64 (creV c es t name n).1] ∧ Ps = []) := by
 refine Ctr.of_body Tryz.func36 rfl (by kernel_rfl) Tryz.ntmps36 rfl rfl (fun Fr => ?_)
 have ht := h.tl
 have hc := h.c9
 have hlen := h.v.len
 refine T.seq fun K1 hK1 => ?_
 refine T.region (l := [0, 1]) rfl ?_
 refine RN.a rfl ?_
 refine RN.a rfl ?_
 refine RN.nil ?_
 refine hK1 _ _ ?_
 refine T.seq fun K2 hK2 => ?_
 refine T.seq fun K3 hK3 => ?_
 refine T.region (l := [0, 1, 2, 3, 4, 5, 6, 7, 8, 9, 10]) rfl ?_
 refine RN.m rfl ?_
 refine RN.C [] rfl rfl rfl rfl (c_call rfl rfl) (RGood_A name) rfl ?_
 rintro _ _ ⟨rfl, rfl⟩
 refine RN.p rfl (by exact (p_not rfl rfl)) ?_
 refine RN.m rfl ?_
 refine RN.split 15 rfl (fun h15 => ?_) (fun h15 => ?_)
 ·
  have hg : ¬ gb name = true := by simpa using h15
  refine RN.no0 rfl ?_
  refine RN.no0 rfl ?_
  refine RN.pt rfl ?_
  refine RN.m rfl ?_
  refine RN.no0 rfl ?_
  refine RN.no0 rfl ?_
  refine RN.pt rfl ?_
  refine RN.nil ?_
  refine hK3 _ _ ?_
  refine T.cond_t rfl ?_
  refine T.seq fun K4 hK4 => ?_
  refine T.region (l := [0, 1, 2]) rfl ?_
  refine RN.m rfl ?_
  refine RN.a rfl ?_
  refine RN.a rfl ?_
  refine RN.nil ?_
  refine hK4 _ _ ?_
  refine T.ret ?_
  refine Post.seq_r ?_
  have he := cre_bad (c := c) (es := es) (t := t) (name := name) (n := n) (fun h => by exact hg h.1)
  refine bodyQ_ret [] (RetRun.tmp (RetRun.tmp RetRun.nil)) ⟨by rw [he]; rfl, rfl⟩ (Ent.refl _)
 ·
  have hg : gb name = true := by simpa using h15
  refine RN.m rfl ?_
  refine RN.p rfl (p_lss rfl rfl rfl) ?_
  refine RN.pf rfl ?_
  refine RN.m rfl ?_
  refine RN.split_dec 19 rfl (fun h19 => ?_) (fun h19 => ?_)
  ·
   refine RN.no0 rfl ?_
   refine RN.no0 rfl ?_
   refine RN.pt rfl ?_
   refine RN.nil ?_
   refine hK3 _ _ ?_
   refine T.cond_t rfl ?_
   refine T.seq fun K5 hK5 => ?_
   refine T.region (l := [0, 1, 2]) rfl ?_
   refine RN.m rfl ?_
   refine RN.a rfl ?_
   refine RN.a rfl ?_
   refine RN.nil ?_
   refine hK5 _ _ ?_
   refine T.ret ?_
   refine Post.seq_r ?_
   have he := cre_bad (c := c) (es := es) (t := t) (name := name) (n := n) (fun h => by omega)
   refine bodyQ_ret [] (RetRun.tmp (RetRun.tmp RetRun.nil)) ⟨by rw [he]; rfl, rfl⟩ (Ent.refl _)
  ·
   refine RN.m rfl ?_
   refine RN.p rfl (p_gtr rfl rfl rfl) ?_
   refine RN.pf rfl ?_
   refine RN.nil ?_
   refine hK3 _ _ ?_
   refine T.cond_dec rfl (fun h22 => ?_) (fun h22 => ?_)
   ·
    refine T.seq fun K6 hK6 => ?_
    refine T.region (l := [0, 1, 2]) rfl ?_
    refine RN.m rfl ?_
    refine RN.a rfl ?_
    refine RN.a rfl ?_
    refine RN.nil ?_
    refine hK6 _ _ ?_
    refine T.ret ?_
    refine Post.seq_r ?_
    have he := cre_bad (c := c) (es := es) (t := t) (name := name) (n := n) (fun h => by omega)
    refine bodyQ_ret [] (RetRun.tmp (RetRun.tmp RetRun.nil)) ⟨by rw [he]; rfl, rfl⟩ (Ent.refl _)
   ·
    obtain ⟨nn, rfl⟩ := Int.eq_ofNat_of_zero_le (show 0 ≤ n by omega)
    have hok : gb name = true ∧ 1 ≤ (nn : Int) ∧ (nn : Int) ≤ 512 := ⟨hg, by omega, by omega⟩
    refine T.skip ?_
    refine hK2 _ _ ?_
    refine T.seq fun K7 hK7 => ?_
    refine T.seq fun K8 hK8 => ?_
    refine T.region (l := [0, 1, 2, 3, 4]) rfl ?_
    refine RN.m rfl ?_
    refine RN.C [] rfl rfl rfl rfl (c_call rfl rfl) (RVolumes_spec t c ht hc) rfl ?_
    rintro v25 _ ⟨hv25, rfl⟩
    refine RN.m rfl ?_
    refine RN.C [0] rfl rfl rfl rfl (c_call rfl rfl) (RFind_spec v25 (rvE c t 8) name) rfl ?_
    rintro _ _ ⟨r, rfl, hr, rfl⟩
    refine RN.p rfl (p_geq rfl rfl rfl) ?_
    refine RN.nil ?_
    refine hK8 _ _ ?_
    refine T.cond_dec rfl (fun h28 => ?_) (fun h28 => ?_)
    ·
     obtain ⟨j, _, _, hf, _⟩ := h.find_some hr (by omega)
     refine T.seq fun K9 hK9 => ?_
     refine T.region (l := [0, 1, 2]) rfl ?_
     refine RN.m rfl ?_
     refine RN.a rfl ?_
     refine RN.a rfl ?_
     refine RN.nil ?_
     refine hK9 _ _ ?_
     refine T.ret ?_
     refine Post.seq_r ?_
     have he := cre_two (c := c) (t := t) hok hf
     refine bodyQ_ret [] (RetRun.tmp (RetRun.tmp RetRun.nil)) ⟨by rw [he]; rfl, rfl⟩ (Ent.drop _ _)
    ·
     have hf : findE es name = none := h.find_none hr (by omega)
     refine T.skip ?_
     refine hK7 _ _ ?_
     refine T.seq fun K10 hK10 => ?_
     refine T.region (l := [0, 1, 2, 3, 4, 5, 6, 7, 8]) rfl ?_
     refine RN.m rfl ?_
     refine RN.m rfl ?_
     refine RN.C [] rfl rfl rfl rfl (c_call rfl rfl) (Rroom_spec t c es nn h (by omega)) rfl ?_
     rintro _ _ ⟨vs, hvl, hv1, rfl, hvy, rfl⟩
     refine RN.m rfl ?_
     refine RN.p rfl (p_extract rfl rfl rfl) ?_
     refine RN.p rfl (p_extract rfl rfl rfl) ?_
     refine RN.E rfl rfl rfl rfl (e_alloc rfl ti_79) ?_
     rintro _ _ ⟨b8, rfl, rfl⟩
     refine RN.EN rfl rfl rfl (by exact (e_storeA rfl ts_79 rfl rfl hvl hv1 (i := 0) rfl (by (simp; done)))) ?_
     rintro _ _ ⟨rfl, rfl⟩
     refine RN.a rfl ?_
     refine RN.nil ?_
     refine hK10 _ _ ?_
     refine T.seq fun K11 hK11 => ?_
     refine T.seq fun K12 hK12 => ?_
     refine T.region (l := [0, 1]) rfl ?_
     refine RN.m rfl ?_
     refine RN.p rfl (by exact (p_not_dec rfl rfl)) ?_
     refine RN.nil ?_
     refine hK12 _ _ ?_
     refine T.cond_dec rfl (fun h37 => ?_) (fun h37 => ?_)
     ·
      refine T.seq fun K13 hK13 => ?_
      refine T.region (l := [0, 1, 2]) rfl ?_
      refine RN.m rfl ?_
      refine RN.a rfl ?_
      refine RN.a rfl ?_
      refine RN.nil ?_
      refine hK13 _ _ ?_
      refine T.ret ?_
      refine Post.seq_r ?_
      have he := cre_full (c := c) (t := t) hok hf h37
      refine bodyQ_ret [] (RetRun.tmp (RetRun.tmp RetRun.nil)) ⟨by rw [he]; rfl, rfl⟩ (Ent.pull_drop (is := [2]) rfl)
     ·
      have hro := Classical.not_not.1 h37
      obtain rfl := hvy hro
      obtain ⟨i, hfi, hfz⟩ := free_of hro.1
      obtain ⟨hi8, _⟩ := freeI_is hfi
      have hF8 := h.first8 nn
      refine T.skip ?_
      refine hK11 _ _ ?_
      refine T.seq fun K14 hK14 => ?_
      refine T.ent (Hs' := [row b8 79 [strV [], intV (roomAt es nn), intV nn, intV i], vec 79 4 v25 (rvE c t 8).length (flR (rvE c t 8)), Fr]) (Ent.rowEq (by rw [hfz]; rfl)) ?_
      refine T.region (l := [0, 1, 2]) rfl ?_
      refine RN.m rfl ?_
      refine RN.p rfl (p_fieldAddr rfl fa_79_0 rfl) ?_
      refine RN.EN rfl rfl rfl (by exact (e_store rfl ts_9 rfl (by conv => lhs; whnf) (by rfl) (i := 0) rfl (Nat.succ_pos 3))) ?_
      rintro _ _ ⟨rfl, rfl⟩
      refine RN.nil ?_
      refine hK14 _ _ ?_
      refine T.seq fun K15 hK15 => ?_
      refine T.region (l := [0, 1, 2, 3, 4, 5, 6, 7, 8, 9]) rfl ?_
      refine RN.m rfl ?_
      refine RN.p rfl (p_fieldAddr rfl fa_79_1 rfl) ?_
      refine RN.u rfl (by exact (q_load rfl sc_3 rfl (i := 0) rfl rfl)) ?_
      refine RN.m rfl ?_
      refine RN.C [] rfl rfl rfl rfl (c_call rfl rfl) (RWrite_A t (roomAt es nn : Nat) (nn : Nat) [] (by omega) (by simp)) rfl ?_
      rintro _ _ ⟨rfl, rfl⟩
      refine RN.m rfl ?_
      refine RN.p rfl (p_extract rfl rfl rfl) ?_
      refine RN.p rfl (p_extract rfl rfl rfl) ?_
      refine RN.a rfl ?_
      refine RN.a rfl ?_
      refine RN.nil ?_
      refine hK15 _ _ ?_
      refine T.seq fun K16 hK16 => ?_
      refine T.region (l := [0, 1, 2, 3, 4]) rfl ?_
      refine RN.m rfl ?_
      refine RN.u rfl (by exact (q_loadA rfl ag_79 ts_79 rfl (i := 0) rfl (by (simp; done)) rfl)) ?_
      refine RN.C [] rfl rfl rfl rfl (c_call rfl rfl) (rput_spec (wrT t (roomAt es nn : Nat) (nn : Nat) []) (⟨name, roomAt es nn, nn⟩, i) (by rw [wrT_length]; omega) (gb_len hg).2 (by show roomAt es nn < 65536; omega) (by show nn < 65536; omega)) rfl ?_
      rintro _ _ ⟨rfl, rfl⟩
      refine RN.a rfl ?_
      refine RN.a rfl ?_
      refine RN.nil ?_
      refine hK16 _ _ ?_
      refine T.ret ?_
      have he := cre_ok (c := c) (t := t) hok hf hfi hro.2
      refine bodyQ_ret [] (RetRun.tmp (RetRun.tmp RetRun.nil)) ⟨by rw [he]; rfl, rfl⟩ (Ent.pull_drop (is := [2]) rfl)

theorem RClone_spec (t : List UInt8) (c : Nat) (es : List VE) (h : Go.Mo.Clean c es t) (name to_ : List UInt8) : Ctr Tryz.prog 39 [strV t, strV name, strV to_] [] (fun v Ps => v = .tuple #[strV (cloV c es t name to_).2.2, .int .i64 (cloV c es t name to_).1] ∧ Ps = []) := by
 refine Ctr.of_body Tryz.func39 rfl (by kernel_rfl) Tryz.ntmps39 rfl rfl (fun Fr => ?_)
 have ht := h.tl
 have hc := h.c9
 have hlen := h.v.len
 refine T.seq fun K1 hK1 => ?_
 refine T.region (l := [0, 1]) rfl ?_
 refine RN.a rfl ?_
 refine RN.a rfl ?_
 refine RN.nil ?_
 refine hK1 _ _ ?_
 refine T.seq fun K2 hK2 => ?_
 refine T.region (l := [0, 1, 2]) rfl ?_
 refine RN.m rfl ?_
 refine RN.C [] rfl rfl rfl rfl (c_call rfl rfl) (RVolumes_spec t c ht hc) rfl ?_
 rintro v17 _ ⟨hv17, rfl⟩
 refine RN.a rfl ?_
 refine RN.nil ?_
 refine hK2 _ _ ?_
 refine T.seq fun K3 hK3 => ?_
 refine T.region (l := [0, 1, 2, 3]) rfl ?_
 refine RN.m rfl ?_
 refine RN.m rfl ?_
 refine RN.C [0] rfl rfl rfl rfl (c_call rfl rfl) (RFind_spec v17 (rvE c t 8) name) rfl ?_
 rintro _ _ ⟨r, rfl, hr, rfl⟩
 refine RN.a rfl ?_
 refine RN.nil ?_
 refine hK3 _ _ ?_
 refine T.seq fun K4 hK4 => ?_
 refine T.seq fun K5 hK5 => ?_
 refine T.region (l := [0, 1]) rfl ?_
 refine RN.m rfl ?_
 refine RN.p rfl (p_lss rfl rfl rfl) ?_
 refine RN.nil ?_
 refine hK5 _ _ ?_
 refine T.cond_dec rfl (fun h22 => ?_) (fun h22 => ?_)
 ·
  have hf := h.find_none hr (by omega)
  refine T.seq fun K6 hK6 => ?_
  refine T.region (l := [0, 1, 2]) rfl ?_
  refine RN.m rfl ?_
  refine RN.a rfl ?_
  refine RN.a rfl ?_
  refine RN.nil ?_
  refine hK6 _ _ ?_
  refine T.ret ?_
  refine Post.seq_r ?_
  have ho := oth_none (to_ := to_) hf
  refine bodyQ_ret [] (RetRun.tmp (RetRun.tmp RetRun.nil)) ⟨by rw [clo_no (by rw [ho]; decide), ho]; rfl, rfl⟩ (Ent.drop _ _)
 ·
  obtain ⟨j, hj, rfl, hf, hi, he⟩ := h.find_some hr (by omega)
  obtain ⟨hjk, _, hjl⟩ := rv_get hj
  have hjo := rv_ok hj
  have hjc := hjo.2.2.2
  refine T.skip ?_
  refine hK4 _ _ ?_
  refine T.seq fun K7 hK7 => ?_
  refine T.seq fun K8 hK8 => ?_
  refine T.region (l := [0, 1, 2]) rfl ?_
  refine RN.m rfl ?_
  refine RN.C [] rfl rfl rfl rfl (c_call rfl rfl) (RGood_A to_) rfl ?_
  rintro _ _ ⟨rfl, rfl⟩
  refine RN.p rfl (by exact (p_not rfl rfl)) ?_
  refine RN.nil ?_
  refine hK8 _ _ ?_
  refine T.cond rfl (fun h26 => ?_) (fun h26 => ?_)
  ·
   have hg : ¬ gb to_ = true := by simpa using h26
   refine T.seq fun K9 hK9 => ?_
   refine T.region (l := [0, 1, 2]) rfl ?_
   refine RN.m rfl ?_
   refine RN.a rfl ?_
   refine RN.a rfl ?_
   refine RN.nil ?_
   refine hK9 _ _ ?_
   refine T.ret ?_
   refine Post.seq_r ?_
   have ho := oth_bad (to_ := to_) hf hg
   refine bodyQ_ret [] (RetRun.tmp (RetRun.tmp RetRun.nil)) ⟨by rw [clo_no (by rw [ho]; decide), ho]; rfl, rfl⟩ (Ent.drop _ _)
  ·
   have hg : gb to_ = true := by simpa using h26
   refine T.skip ?_
   refine hK7 _ _ ?_
   refine T.seq fun K10 hK10 => ?_
   refine T.seq fun K11 hK11 => ?_
   refine T.region (l := [0, 1, 2, 3]) rfl ?_
   refine RN.m rfl ?_
   refine RN.m rfl ?_
   refine RN.C [0] rfl rfl rfl rfl (c_call rfl rfl) (RFind_spec v17 (rvE c t 8) to_) rfl ?_
   rintro _ _ ⟨r2, rfl, hr2, rfl⟩
   refine RN.p rfl (p_geq rfl rfl rfl) ?_
   refine RN.nil ?_
   refine hK11 _ _ ?_
   refine T.cond_dec rfl (fun h31 => ?_) (fun h31 => ?_)
   ·
    obtain ⟨j2, _, _, hf2, _⟩ := h.find_some hr2 (by omega)
    refine T.seq fun K12 hK12 => ?_
    refine T.region (l := [0, 1, 2]) rfl ?_
    refine RN.m rfl ?_
    refine RN.a rfl ?_
    refine RN.a rfl ?_
    refine RN.nil ?_
    refine hK12 _ _ ?_
    refine T.ret ?_
    refine Post.seq_r ?_
    have ho := oth_two hf hg hf2
    refine bodyQ_ret [] (RetRun.tmp (RetRun.tmp RetRun.nil)) ⟨by rw [clo_no (by rw [ho]; decide), ho]; rfl, rfl⟩ (Ent.drop _ _)
   ·
    have hf2 : findE es to_ = none := h.find_none hr2 (by omega)
    refine T.skip ?_
    refine hK10 _ _ ?_
    refine T.seq fun K13 hK13 => ?_
    refine T.openVec 0 rfl (by omega) ?_
    rintro bw capw restw rfl hw1 hw2 hw3
    refine T.region (l := [0, 1, 2, 3, 4, 5, 6, 7, 8, 9, 10, 11, 12]) rfl ?_
    refine RN.m rfl ?_
    refine RN.m rfl ?_
    refine RN.m rfl ?_
    refine RN.p rfl (by exact (p_indexAddrN rfl Tryz.underlying76 ts_79 rfl rfl (by omega))) ?_
    refine RN.p rfl (p_fieldAddr rfl fa_79_2 rfl) ?_
    refine RN.u rfl (by exact (q_load rfl sc_3 rfl (i := 0) rfl (flR_atK (k := 2) hj rfl))) ?_
    refine RN.C [] rfl rfl rfl rfl (c_call rfl rfl) (Rroom_spec t c es ((rvE c t 8)[j].1.len) h (by omega)) rfl ?_
    rintro _ _ ⟨vs, hvl, hv1, rfl, hvy, rfl⟩
    refine RN.m rfl ?_
    refine RN.p rfl (p_extract rfl rfl rfl) ?_
    refine RN.p rfl (p_extract rfl rfl rfl) ?_
    refine RN.E rfl rfl rfl rfl (e_alloc rfl ti_79) ?_
    rintro _ _ ⟨b10, rfl, rfl⟩
    refine RN.EN rfl rfl rfl (by exact (e_storeA rfl ts_79 rfl rfl hvl hv1 (i := 0) rfl (by (simp; done)))) ?_
    rintro _ _ ⟨rfl, rfl⟩
    refine RN.a rfl ?_
    refine RN.nil ?_
    refine hK13 _ _ ?_
    refine T.seq fun K14 hK14 => ?_
    refine T.seq fun K15 hK15 => ?_
    refine T.region (l := [0, 1]) rfl ?_
    refine RN.m rfl ?_
    refine RN.p rfl (by exact (p_not_dec rfl rfl)) ?_
    refine RN.nil ?_
    refine hK15 _ _ ?_
    refine T.cond_dec rfl (fun h44 => ?_) (fun h44 => ?_)
    ·
     refine T.seq fun K16 hK16 => ?_
     refine T.region (l := [0, 1, 2]) rfl ?_
     refine RN.m rfl ?_
     refine RN.a rfl ?_
     refine RN.a rfl ?_
     refine RN.nil ?_
     refine hK16 _ _ ?_
     refine T.ret ?_
     refine Post.seq_r ?_
     have ho := oth_ok hf hg hf2
     have hr := clo_full (t := t) (c := c) (es := es) (name := name) (to_ := to_) (by rw [ho]) (by rw [ho]; exact hi) (by simp only [ho, he]; exact h44)
     refine bodyQ_ret [] (RetRun.tmp (RetRun.tmp RetRun.nil)) ⟨by rw [hr]; rfl, rfl⟩ (Ent.pull_drop (is := [2]) rfl)
    ·
     have hro := Classical.not_not.1 h44
     obtain rfl := hvy hro
     obtain ⟨i, hfi, hfz⟩ := free_of hro.1
     obtain ⟨hi8, _⟩ := freeI_is hfi
     have hF8 := h.first8 ((rvE c t 8)[j].1.len)
     refine T.skip ?_
     refine hK14 _ _ ?_
     refine T.seq fun K17 hK17 => ?_
     refine T.ent (Hs' := [row b10 79 [strV [], intV (roomAt es ((rvE c t 8)[j].1.len)), intV ((rvE c t 8)[j].1.len), intV i], row bw 79 (flR (rvE c t 8) ++ restw), Fr]) (Ent.rowEq (by rw [hfz]; rfl)) ?_
     refine T.region (l := [0, 1, 2]) rfl ?_
     refine RN.m rfl ?_
     refine RN.p rfl (p_fieldAddr rfl fa_79_0 rfl) ?_
     refine RN.EN rfl rfl rfl (by exact (e_store rfl ts_9 rfl (by conv => lhs; whnf) (by rfl) (i := 0) rfl (Nat.succ_pos 3))) ?_
     rintro _ _ ⟨rfl, rfl⟩
     refine RN.nil ?_
     refine hK17 _ _ ?_
     refine T.seq fun K18 hK18 => ?_
     refine T.regionD (z := 11) (Bs := [row bw 79 (flR (rvE c t 8) ++ restw)]) (l := [(0, .pure), (1, .pure), (2, .pure), (3, .pure), (4, .pure), (5, .load), (6, .pure), (7, .pure), (8, .pure), (9, .pure), (10, .load), (11, .eff), (12, .pure), (13, .pure), (14, .pure), (15, .pure), (16, .pure)]) mixed (by kernel_rfl) (by exact Ent.pull_drop (is := [1]) rfl) ?_
     refine RD.n rfl (p_move rfl (by conv => lhs; whnf)) ?_
     refine RD.n rfl (p_move rfl (by conv => lhs; whnf)) ?_
     refine RD.n rfl (p_move rfl (by conv => lhs; whnf)) ?_
     refine RD.n rfl (by exact (p_indexAddrN rfl Tryz.underlying76 ts_79 rfl rfl (by omega))) ?_
     refine RD.n rfl (p_fieldAddr rfl fa_79_1 rfl) ?_
     refine RD.qq rfl rfl rfl rfl (by exact (q_load rfl sc_3 rfl (i := 0) rfl (flR_atK (k := 1) hj rfl))) (by exact Ent.pull_drop (is := [1]) rfl) ?_
     refine RD.n rfl (p_move rfl (by conv => lhs; whnf)) ?_
     refine RD.n rfl (p_move rfl (by conv => lhs; whnf)) ?_
     refine RD.n rfl (by exact (p_indexAddrN rfl Tryz.underlying76 ts_79 rfl rfl (by omega))) ?_
     refine RD.n rfl (p_fieldAddr rfl fa_79_2 rfl) ?_
     refine RD.qq rfl rfl rfl rfl (by exact (q_load rfl sc_3 rfl (i := 0) rfl (flR_atK (k := 2) hj rfl))) (by exact Ent.pull_drop (is := [1]) rfl) ?_
     refine RD.C [] rfl rfl rfl rfl (c_call rfl rfl) (RRead_A t ((rvE c t 8)[j].1.first : Nat) ((rvE c t 8)[j].1.len : Nat) (by omega)) rfl (fun _ _ _ => .inr rfl) ?_
     rintro _ _ ⟨rfl, rfl⟩
     refine RD.n rfl (p_move rfl (by conv => lhs; whnf)) ?_
     refine RD.n rfl (p_extract rfl rfl rfl) ?_
     refine RD.n rfl (p_extract rfl rfl rfl) ?_
     refine RD.n rfl (p_assign rfl (by conv => lhs; whnf)) ?_
     refine RD.n rfl (p_assign rfl (by conv => lhs; whnf)) ?_
     refine RD.nil ?_
     refine hK18 _ _ ?_
     refine T.seq fun K19 hK19 => ?_
     refine T.region (l := [0, 1, 2, 3, 4, 5, 6, 7, 8, 9, 10, 11]) rfl ?_
     refine RN.m rfl ?_
     refine RN.p rfl (p_fieldAddr rfl fa_79_1 rfl) ?_
     refine RN.u rfl (by exact (q_load rfl sc_3 rfl (i := 0) rfl rfl)) ?_
     refine RN.p rfl (p_fieldAddr rfl fa_79_2 rfl) ?_
     refine RN.u rfl (by exact (q_load rfl sc_3 rfl (i := 0) rfl rfl)) ?_
     refine RN.m rfl ?_
     refine RN.C [] rfl rfl rfl rfl (c_call rfl rfl) (RWrite_A t (roomAt es ((rvE c t 8)[j].1.len) : Nat) ((rvE c t 8)[j].1.len : Nat) (rdT t ((rvE c t 8)[j].1.first : Nat) ((rvE c t 8)[j].1.len : Nat)) (by omega) (by rw [rdT_length (h.right (by omega) (by omega))]; omega)) rfl ?_
     rintro _ _ ⟨rfl, rfl⟩
     refine RN.m rfl ?_
     refine RN.p rfl (p_extract rfl rfl rfl) ?_
     refine RN.p rfl (p_extract rfl rfl rfl) ?_
     refine RN.a rfl ?_
     refine RN.a rfl ?_
     refine RN.nil ?_
     refine hK19 _ _ ?_
     refine T.seq fun K20 hK20 => ?_
     refine T.region (l := [0, 1, 2, 3, 4]) rfl ?_
     refine RN.m rfl ?_
     refine RN.u rfl (by exact (q_loadA rfl ag_79 ts_79 rfl (i := 0) rfl (by (simp; done)) rfl)) ?_
     refine RN.C [] rfl rfl rfl rfl (c_call rfl rfl) (rput_spec (wrT t (roomAt es ((rvE c t 8)[j].1.len) : Nat) ((rvE c t 8)[j].1.len : Nat) (rdT t ((rvE c t 8)[j].1.first : Nat) ((rvE c t 8)[j].1.len : Nat))) (⟨to_, roomAt es ((rvE c t 8)[j].1.len), (rvE c t 8)[j].1.len⟩, i) (by rw [wrT_length]; omega) (gb_len hg).2 (by show roomAt es ((rvE c t 8)[j].1.len) < 65536; omega) (by show (rvE c t 8)[j].1.len < 65536; omega)) rfl ?_
     rintro _ _ ⟨rfl, rfl⟩
     refine RN.a rfl ?_
     refine RN.a rfl ?_
     refine RN.nil ?_
     refine hK20 _ _ ?_
     refine T.ret ?_
     have ho := oth_ok hf hg hf2
     have hr := clo_ok (t := t) (c := c) (es := es) (name := name) (to_ := to_) (by rw [ho]) (by rw [ho]; exact hi) hfi (by simp only [ho, he]; exact hro.2)
     simp only [ho, he] at hr
     refine bodyQ_ret [] (RetRun.tmp (RetRun.tmp RetRun.nil)) ⟨by rw [hr]; rfl, rfl⟩ (Ent.pull_drop (is := [2]) rfl)

end Go.Proofs.YtbbgajjonodlfaaGreat
