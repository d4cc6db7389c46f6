/-
 Numbers of a command: walked.
-/
import Derived.Test.YtokbjejbgbdkoaaDoorGYdR1
import Derived.Test.YtokbjejbgbdkoaaDoorGModelC
set_option linter.unusedVariables false
set_option linter.unusedSimpArgs false
namespace Go.Proofs.YtokbjejbgbdkoaaDoor
open Go Go.Sl Go.Proofs
set_option maxRecDepth 20000
open Go.Mo Go.Proofs Go.Shelf Go.RowKit
def iC (n : Int) : Value := .int .i64 n
/-- A command as a value of the interface type. -/
def cmV (c : Cm) : Value :=
 if c.kind = 114 then .iface 42 (.agg #[iC c.a, iC c.b]) else if c.kind = 119 then .iface 37 (.agg #[iC c.a, iC c.b, strV c.data]) else if c.kind = 116 then .iface 43 (.agg #[iC c.a, iC c.b])
 else if c.kind = 99 then .iface 45 (.agg #[iC c.a]) else if c.kind = 102 then .iface 46 (.agg #[iC c.a]) else if c.kind = 109 then .iface 47 (.agg #[iC c.a])
 else if c.kind = 115 then .iface 49 (.agg #[]) else .iface 50 (.agg #[])

theorem Numbers_spec (t : List UInt8) (n : Nat) (hn : n ≤ 2) (ht : t.length ≤ 1000000000) : Ctr Tryd.prog 20 [strV t, intV n] [] (fun w Ps => ∃ v4 r ok acc, w = .tuple #[v4, strV r, .bool ok] ∧ ((ok = true ∧ numsF n t = some (acc, r)) ∨ (ok = false ∧ numsF n t = none)) ∧ v4.oneCell' = true ∧ r.length ≤ t.length ∧ Ps = [vec 3 1 v4 acc.length (acc.map iC)]) := by
 refine Ctr.of_body Tryd.func20 rfl (by kernel_rfl) Tryd.ntmps20 rfl rfl (fun Fr => ?_)
 refine T.seq fun K1 hK1 => ?_
 refine T.region (l := [0, 1, 2]) rfl ?_
 refine RN.a rfl ?_
 refine RN.a rfl ?_
 refine RN.a rfl ?_
 refine RN.nil ?_
 refine hK1 _ _ ?_
 refine T.seq fun K2 hK2 => ?_
 refine T.seq fun K3 hK3 => ?_
 refine T.region (l := [0, 1]) rfl ?_
 refine RN.m rfl ?_
 refine RN.m rfl ?_
 refine RN.nil ?_
 refine hK3 _ _ ?_
 refine T.block ?_
 refine T.loop (G := Nat × List Int × List UInt8 × Value) (fun ⟨i, acc, s, v4⟩ => i ≤ n ∧ acc.length = i ∧ s.length ≤ t.length ∧ v4.oneCell' = true ∧ numsF n t = (numsF (n - i) s).map fun x => (acc ++ x.1, x.2)) (fun ⟨i, acc, s, v4⟩ => [(0, strV s), (4, v4), (10, intV n), (11, intV i)]) (fun ⟨i, acc, s, v4⟩ => [vec 3 1 v4 acc.length (acc.map iC), Fr]) (fun ⟨i, acc, s, v4⟩ => n - i) (0, [], t, .slice none 0 0) ⟨Nat.zero_le _, rfl, Nat.le_refl _, rfl, by show _ = (numsF n t).map fun x => (x.1, x.2); simp⟩ (LiveIs.cons rfl (LiveIs.cons rfl (LiveIs.cons rfl (LiveIs.cons rfl LiveIs.nil)))) Ent.vec_nil' ?_
 rintro ⟨i, acc, s, v4⟩ e4 ⟨hin, hal, hsl, hv4, hnum⟩
 dsimp only
 refine T.seq fun K5 hK5 => ?_
 refine T.region (l := [0]) rfl ?_
 refine RN.p rfl (p_lss rfl rfl rfl) ?_
 refine RN.nil ?_
 refine hK5 _ _ ?_
 refine T.seq fun K6 hK6 => ?_
 first | refine T.cond_dec rfl (fun h12 => ?_) (fun h12 => ?_) | refine T.cond rfl (fun h12 => ?_) (fun h12 => ?_)
 ·
  have hlt : i < n := by omega
  refine T.skip ?_
  refine hK6 _ _ ?_
  refine T.seq fun K7 hK7 => ?_
  refine T.block ?_
  refine T.seq fun K8 hK8 => ?_
  refine T.region (l := [0]) rfl ?_
  refine RN.a rfl ?_
  refine RN.nil ?_
  refine hK8 _ _ ?_
  refine T.seq fun K9 hK9 => ?_
  refine T.region (l := [0, 1, 2, 3, 4, 5, 6]) rfl ?_
  refine RN.m rfl ?_
  refine RN.C [] rfl rfl rfl rfl (c_call rfl rfl) (Word_f s (by omega)) rfl ?_
  rintro _ _ ⟨rfl, rfl⟩
  have hwl := word_len s
  refine RN.m rfl ?_
  refine RN.p rfl (p_extract rfl rfl rfl) ?_
  refine RN.p rfl (p_extract rfl rfl rfl) ?_
  refine RN.a rfl ?_
  refine RN.a rfl ?_
  refine RN.nil ?_
  refine hK9 _ _ ?_
  refine T.seq fun K10 hK10 => ?_
  refine T.region (l := [0, 1, 2, 3, 4, 5, 6]) rfl ?_
  refine RN.m rfl ?_
  refine RN.C [] rfl rfl rfl rfl (c_call rfl rfl) (Number_spec (wordF s).1 (by omega)) rfl ?_
  rintro _ _ ⟨v, ok, rfl, hx, rfl⟩
  refine RN.m rfl ?_
  refine RN.p rfl (p_extract rfl rfl rfl) ?_
  refine RN.p rfl (p_extract rfl rfl rfl) ?_
  refine RN.a rfl ?_
  refine RN.a rfl ?_
  refine RN.nil ?_
  refine hK10 _ _ ?_
  refine T.seq fun K11 hK11 => ?_
  refine T.seq fun K12 hK12 => ?_
  refine T.region (l := [0, 1]) rfl ?_
  refine RN.m rfl ?_
  refine RN.p rfl (by first | exact (p_not_dec rfl rfl) | exact (p_not rfl rfl)) ?_
  refine RN.nil ?_
  refine hK12 _ _ ?_
  first | refine T.cond_dec rfl (fun h24 => ?_) (fun h24 => ?_) | refine T.cond rfl (fun h24 => ?_) (fun h24 => ?_)
  ·
   have hno : numP (wordF s).1 = none := by
    rcases hx with ⟨h, _⟩ | ⟨_, h⟩
    · rw [h] at h24; simp at h24
    · exact h
   refine T.seq fun K13 hK13 => ?_
   refine T.region (l := [0, 1, 2]) rfl ?_
   refine RN.a rfl ?_
   refine RN.a rfl ?_
   refine RN.a rfl ?_
   refine RN.nil ?_
   refine hK13 _ _ ?_
   refine T.ret ?_
   refine Post.seq_r ?_
   refine Post.block_r ?_
   refine Post.seq_r ?_
   refine Post.seq_r ?_
   refine Post.block_r ?_
   refine Post.seq_r ?_
   refine bodyQ_ret [vec 3 1 (.slice none 0 0) 0 ([])] (RetRun.tmp (RetRun.tmp (RetRun.tmp RetRun.nil))) ⟨.slice none 0 0, [], false, [], rfl, .inr ⟨rfl, nums_bad hlt hnum hno⟩, rfl, Nat.zero_le _, rfl⟩ ((Ent.pull_drop (is := [1]) rfl).trans Ent.vec_nil')
  ·
   have hyes : numP (wordF s).1 = some v := by
    rcases hx with ⟨_, h⟩ | ⟨h, _⟩
    · exact h
    · rw [h] at h24; simp at h24
   refine T.skip ?_
   refine hK11 _ _ ?_
   refine T.region (l := [0, 1, 2, 3, 4]) rfl ?_
   refine RN.m rfl ?_
   refine RN.m rfl ?_
   refine RN.E rfl rfl rfl rfl (e_buildSlice1 rfl Tryd.underlying63 ti_3 rfl (by conv => lhs; whnf) rfl) ?_
   rintro _ _ ⟨b27, rfl, rfl⟩
   refine RN.E rfl rfl rfl rfl (e_append rfl Tryd.underlying63 ni_63 ti_3 rfl rfl (i := 1) rfl (src_full (i := 0) rfl rfl) (one_one rfl) (by omega)) ?_
   rintro v28 _ ⟨hv28, rfl⟩
   refine RN.a rfl ?_
   refine RN.nil ?_
   refine hK7 _ _ ?_
   refine T.region (l := [0, 1]) rfl ?_
   refine RN.p rfl (by first | exact (p_addN (b := 1) rfl rfl rfl (by omega)) | exact (p_add rfl rfl rfl (by omega))) ?_
   refine RN.m rfl ?_
   refine RN.nil ?_
   refine ⟨(i + 1, acc ++ [v], (wordF s).2, v28), ⟨hlt, by rw [List.length_append, hal]; rfl, by show (wordF s).2.length ≤ _; omega, hv28, nums_next hlt hnum hyes⟩, (by show _ - (i + 1) < _ - i; omega), (LiveIs.cons rfl (LiveIs.cons rfl (LiveIs.cons rfl (LiveIs.cons rfl LiveIs.nil)))), ((Ent.pull_drop (is := [1, 1]) rfl).trans (Ent.cons (vec_eq (by rw [List.length_append]; rfl) (by rw [List.map_append]; rfl)) (Ent.refl _)))⟩
 ·
  refine T.exit ?_
  refine Post.seq_x ?_
  refine Post.seq_x ?_
  refine Post.block_hit ?_
  refine hK2 _ _ ?_
  refine T.seq fun K14 hK14 => ?_
  refine T.region (l := [0, 1, 2, 3, 4]) rfl ?_
  refine RN.m rfl ?_
  refine RN.m rfl ?_
  refine RN.a rfl ?_
  refine RN.a rfl ?_
  refine RN.a rfl ?_
  refine RN.nil ?_
  refine hK14 _ _ ?_
  refine T.ret ?_
  refine bodyQ_ret [vec 3 1 v4 acc.length (acc.map iC)] (RetRun.tmp (RetRun.tmp (RetRun.tmp RetRun.nil))) ⟨v4, s, true, acc, rfl, .inl ⟨rfl, nums_end (by omega) hnum⟩, hv4, hsl, rfl⟩ (Ent.refl _)

theorem Empty_spec (t : List UInt8) (ht : t.length ≤ 1000000000) : Ctr Tryd.prog 19 [strV t] [] (fun w Ps => w = .bool (decide ((wordF t).1 = [])) ∧ Ps = []) := by
 refine Ctr.of_body Tryd.func19 rfl (by kernel_rfl) Tryd.ntmps19 rfl rfl (fun Fr => ?_)
 refine T.seq fun K1 hK1 => ?_
 refine T.region (l := [0]) rfl ?_
 refine RN.a rfl ?_
 refine RN.nil ?_
 refine hK1 _ _ ?_
 refine T.seq fun K2 hK2 => ?_
 refine T.region (l := [0, 1, 2, 3, 4, 5, 6]) rfl ?_
 refine RN.m rfl ?_
 refine RN.C [] rfl rfl rfl rfl (c_call rfl rfl) (Word_f t (by omega)) rfl ?_
 rintro _ _ ⟨rfl, rfl⟩
 refine RN.m rfl ?_
 refine RN.p rfl (p_extract rfl rfl rfl) ?_
 refine RN.p rfl (p_extract rfl rfl rfl) ?_
 refine RN.a rfl ?_
 refine RN.a rfl ?_
 refine RN.nil ?_
 refine hK2 _ _ ?_
 refine T.seq fun K3 hK3 => ?_
 refine T.region (l := [0, 1, 2]) rfl ?_
 refine RN.m rfl ?_
 refine RN.p rfl (p_seql rfl rfl rfl) ?_
 refine RN.a rfl ?_
 refine RN.nil ?_
 refine hK3 _ _ ?_
 refine T.ret ?_
 refine bodyQ_ret [] (RetRun.tmp RetRun.nil) ⟨rfl, rfl⟩ (Ent.refl _)

theorem Write_cmd (A : Assn) (hA : Glob 1 2 A) (t : List UInt8) (ht : t.length ≤ 100000000) : Ctr Tryd.prog 18 [strV t] [A] (fun w Ps => ∃ cv ok, w = .tuple #[cv, .bool ok] ∧ cv.oneCell' = true ∧ ((ok = true ∧ ∃ c, writeF t = some c ∧ cv = cmV c) ∨ (ok = false ∧ writeF t = none)) ∧ Ps = [A]) := by
 refine Ctr.of_body Tryd.func18 rfl (by kernel_rfl) Tryd.ntmps18 rfl rfl (fun Fr => ?_)
 refine T.seq fun K1 hK1 => ?_
 refine T.region (l := [0, 1]) rfl ?_
 refine RN.a rfl ?_
 refine RN.a rfl ?_
 refine RN.nil ?_
 refine hK1 _ _ ?_
 refine T.seq fun K2 hK2 => ?_
 refine T.region (l := [0, 1, 2, 3, 4, 5, 6, 7, 8]) rfl ?_
 refine RN.m rfl ?_
 refine RN.C [] rfl rfl rfl rfl (c_call rfl rfl) (Numbers_spec t 2 (by omega) (by omega)) rfl ?_
 rintro _ _ ⟨v4, r, ok, acc, rfl, hx, hv4, hrl, rfl⟩
 refine RN.m rfl ?_
 refine RN.p rfl (p_extract rfl rfl rfl) ?_
 refine RN.p rfl (p_extract rfl rfl rfl) ?_
 refine RN.p rfl (p_extract rfl rfl rfl) ?_
 refine RN.a rfl ?_
 refine RN.a rfl ?_
 refine RN.a rfl ?_
 refine RN.nil ?_
 refine hK2 _ _ ?_
 refine T.seq fun K3 hK3 => ?_
 refine T.seq fun K4 hK4 => ?_
 refine T.region (l := [0, 1]) rfl ?_
 refine RN.m rfl ?_
 refine RN.p rfl (by first | exact (p_not_dec rfl rfl) | exact (p_not rfl rfl)) ?_
 refine RN.nil ?_
 refine hK4 _ _ ?_
 first | refine T.cond_dec rfl (fun h17 => ?_) (fun h17 => ?_) | refine T.cond rfl (fun h17 => ?_) (fun h17 => ?_)
 ·
  have hno : numsF 2 t = none := by
   rcases hx with ⟨h, _⟩ | ⟨_, h⟩
   · rw [h] at h17; simp at h17
   · exact h
  refine T.seq fun K5 hK5 => ?_
  refine T.region (l := [0, 1]) rfl ?_
  refine RN.a rfl ?_
  refine RN.a rfl ?_
  refine RN.nil ?_
  refine hK5 _ _ ?_
  refine T.ret ?_
  refine Post.seq_r ?_
  refine bodyQ_ret [A] (RetRun.tmp (RetRun.tmp RetRun.nil)) ⟨.nilIface, false, rfl, rfl, .inr ⟨rfl, write_none hno⟩, rfl⟩ (Ent.pull_drop (is := [1, 1]) rfl)
 ·
  have hyes : numsF 2 t = some (acc, r) := by
   rcases hx with ⟨_, h⟩ | ⟨h, _⟩
   · exact h
   · rw [h] at h17; simp at h17
  have hdl := dropB_len r
  refine T.skip ?_
  refine hK3 _ _ ?_
  refine T.seq fun K6 hK6 => ?_
  refine T.region (l := [0, 1, 2, 3, 4, 5, 6, 7, 8, 9]) rfl ?_
  refine RN.m rfl ?_
  refine RN.C [] rfl rfl rfl rfl (c_call rfl rfl) (TrimL_spec r) rfl ?_
  rintro _ _ ⟨rfl, rfl⟩
  refine RN.C [1] rfl rfl rfl rfl (c_call rfl rfl) (Read_spec A hA (dropB r) (by omega)) rfl ?_
  rintro _ _ ⟨s, n, e, rfl, hrd, hsl, rfl⟩
  refine RN.m rfl ?_
  refine RN.p rfl (p_extract rfl rfl rfl) ?_
  refine RN.p rfl (p_extract rfl rfl rfl) ?_
  refine RN.p rfl (p_extract rfl rfl rfl) ?_
  refine RN.a rfl ?_
  refine RN.a rfl ?_
  refine RN.a rfl ?_
  refine RN.nil ?_
  refine hK6 _ _ ?_
  refine T.seq fun K7 hK7 => ?_
  refine T.seq fun K8 hK8 => ?_
  refine T.region (l := [0, 1]) rfl ?_
  refine RN.m rfl ?_
  refine RN.p rfl (p_neq rfl rfl rfl) ?_
  refine RN.nil ?_
  refine hK8 _ _ ?_
  first | refine T.cond_dec rfl (fun h26 => ?_) (fun h26 => ?_) | refine T.cond rfl (fun h26 => ?_) (fun h26 => ?_)
  ·
   refine T.seq fun K9 hK9 => ?_
   refine T.region (l := [0, 1]) rfl ?_
   refine RN.a rfl ?_
   refine RN.a rfl ?_
   refine RN.nil ?_
   refine hK9 _ _ ?_
   refine T.ret ?_
   refine Post.seq_r ?_
   refine bodyQ_ret [A] (RetRun.tmp (RetRun.tmp RetRun.nil)) ⟨.nilIface, false, rfl, rfl, .inr ⟨rfl, write_bad hyes hrd (by omega)⟩, rfl⟩ (Ent.pull_drop (is := [0, 1]) rfl)
  ·
   obtain rfl : e = 0 := by omega
   have hnl := rd_le hrd
   obtain ⟨x, y, rfl⟩ := two_acc (nums_len _ _ _ _ hyes)
   refine T.skip ?_
   refine hK7 _ _ ?_
   refine T.seq fun K10 hK10 => ?_
   refine T.openVec 1 rfl (by simp) ?_
   rintro bV cap rest rfl c1 c2 c3
   refine T.regionD (z := 16) (Bs := [row bV 3 (([x, y].map iC) ++ rest)]) (l := [(0, .pure), (1, .pure), (2, .load), (3, .pure), (4, .pure), (5, .load), (6, .pure), (7, .pure), (8, .pure), (9, .pure), (11, .pure), (10, .eff), (12, .pure), (13, .eff), (14, .pure), (15, .pure)]) mixed (by kernel_rfl) (by first | exact Ent.refl _ | exact Ent.pull_drop (is := [0]) rfl | exact Ent.pull_drop (is := [1]) rfl | exact Ent.pull_drop (is := [2]) rfl | exact Ent.pull_drop (is := [3]) rfl | exact Ent.pull_drop (is := [4]) rfl | exact Ent.pull_drop (is := [5]) rfl | exact Ent.pull_drop (is := [6]) rfl | exact Ent.pull_drop (is := [7]) rfl) ?_
   refine RD.n rfl (p_move rfl (by conv => lhs; whnf)) ?_
   refine RD.n rfl (by first | exact (p_indexAddr1N (i := 0) rfl Tryd.underlying63 ts_3 rfl rfl (by simp)) | exact (p_indexAddr1 rfl Tryd.underlying63 ts_3 rfl rfl (by simp))) ?_
   refine RD.qq rfl rfl rfl rfl (by first | exact (q_load rfl sc_3 rfl (i := 0) rfl rfl) | exact (q_load rfl sc_3 rfl (i := 1) rfl rfl) | exact (q_load rfl sc_3 rfl (i := 2) rfl rfl) | exact (q_load rfl sc_3 rfl (i := 3) rfl rfl) | exact (q_load rfl sc_3 rfl (i := 4) rfl rfl)) (by first | exact Ent.refl _ | exact Ent.pull_drop (is := [0]) rfl | exact Ent.pull_drop (is := [1]) rfl | exact Ent.pull_drop (is := [2]) rfl | exact Ent.pull_drop (is := [3]) rfl | exact Ent.pull_drop (is := [4]) rfl | exact Ent.pull_drop (is := [5]) rfl | exact Ent.pull_drop (is := [6]) rfl | exact Ent.pull_drop (is := [7]) rfl) ?_
   refine RD.n rfl (p_move rfl (by conv => lhs; whnf)) ?_
   refine RD.n rfl (by first | exact (p_indexAddr1N (i := 1) rfl Tryd.underlying63 ts_3 rfl rfl (by simp)) | exact (p_indexAddr1 rfl Tryd.underlying63 ts_3 rfl rfl (by simp))) ?_
   refine RD.qq rfl rfl rfl rfl (by first | exact (q_load rfl sc_3 rfl (i := 0) rfl rfl) | exact (q_load rfl sc_3 rfl (i := 1) rfl rfl) | exact (q_load rfl sc_3 rfl (i := 2) rfl rfl) | exact (q_load rfl sc_3 rfl (i := 3) rfl rfl) | exact (q_load rfl sc_3 rfl (i := 4) rfl rfl)) (by first | exact Ent.refl _ | exact Ent.pull_drop (is := [0]) rfl | exact Ent.pull_drop (is := [1]) rfl | exact Ent.pull_drop (is := [2]) rfl | exact Ent.pull_drop (is := [3]) rfl | exact Ent.pull_drop (is := [4]) rfl | exact Ent.pull_drop (is := [5]) rfl | exact Ent.pull_drop (is := [6]) rfl | exact Ent.pull_drop (is := [7]) rfl) ?_
   refine RD.n rfl (p_move rfl (by conv => lhs; whnf)) ?_
   refine RD.n rfl (p_build rfl pl_37 ti_37 (by dsimp [layAll, lay]; rfl)) ?_
   refine RD.n rfl (p_makeIface rfl Tryd.underlying37 rfl) ?_
   refine RD.n rfl (p_move rfl (by conv => lhs; whnf)) ?_
   refine RD.n rfl (p_move rfl (by conv => lhs; whnf)) ?_
   refine RD.C [] rfl rfl rfl rfl (c_call rfl rfl) (TrimL_spec r) rfl (by rintro _ _ ⟨rfl, rfl⟩; exact .inl (by first | exact Ent.refl _ | exact Ent.pull_drop (is := [0]) rfl | exact Ent.pull_drop (is := [1]) rfl | exact Ent.pull_drop (is := [2]) rfl | exact Ent.pull_drop (is := [3]) rfl | exact Ent.pull_drop (is := [4]) rfl | exact Ent.pull_drop (is := [5]) rfl | exact Ent.pull_drop (is := [6]) rfl | exact Ent.pull_drop (is := [7]) rfl)) ?_
   rintro _ _ ⟨rfl, rfl⟩
   refine RD.n rfl (by first | exact (p_slice_s_lo rfl Tryd.underlying9 rfl rfl (by omega)) | exact (p_sliceN_s rfl Tryd.underlying9 rfl rfl rfl (by omega)) | exact (p_slice_s rfl Tryd.underlying9 rfl rfl rfl (by omega))) ?_
   refine RD.C [] rfl rfl rfl rfl (c_call rfl rfl) (Empty_spec ((dropB r).drop n) (by rw [List.length_drop]; omega)) rfl (by rintro _ _ ⟨rfl, rfl⟩; exact .inl (by first | exact Ent.refl _ | exact Ent.pull_drop (is := [0]) rfl | exact Ent.pull_drop (is := [1]) rfl | exact Ent.pull_drop (is := [2]) rfl | exact Ent.pull_drop (is := [3]) rfl | exact Ent.pull_drop (is := [4]) rfl | exact Ent.pull_drop (is := [5]) rfl | exact Ent.pull_drop (is := [6]) rfl | exact Ent.pull_drop (is := [7]) rfl)) ?_
   rintro _ _ ⟨rfl, rfl⟩
   refine RD.n rfl (p_assign rfl (by conv => lhs; whnf)) ?_
   refine RD.n rfl (p_assign rfl (by conv => lhs; whnf)) ?_
   refine RD.nil ?_
   refine hK10 _ _ ?_
   refine T.ret ?_
   refine bodyQ_ret [A] (RetRun.tmp (RetRun.tmp RetRun.nil)) ⟨_, _, rfl, rfl, ?_, rfl⟩ (Ent.pull_drop (is := [0, 1]) rfl)
   rw [write_good hyes hrd]
   by_cases hem : (wordF ((dropB r).drop n)).1 = []
   ·
    rw [if_pos hem]
    exact .inl ⟨decide_eq_true hem, _, rfl, rfl⟩
   ·
    rw [if_neg hem]
    exact .inr ⟨decide_eq_false hem, rfl⟩

end Go.Proofs.YtokbjejbgbdkoaaDoor
namespace Go.Proofs.YtokbjejbgbdkoaaDoor
open Go Go.Sl Go.Proofs
set_option maxRecDepth 20000
open Go.Mo Go.Proofs Go.Shelf Go.RowKit
theorem line_write {l : List UInt8} (h : (wordF l).1 = wWrite) : lineF l = writeF (wordF l).2 := by unfold lineF; rw [if_pos h]
theorem line_mount0 {l : List UInt8} (h : (wordF l).1 = wMount) (he : (wordF (wordF l).2).1 = []) : lineF l = some ⟨109, -1, 0, []⟩ := by
 unfold lineF
 rw [h, if_neg (by decide), if_neg (by decide), if_neg (by decide), if_neg (by decide), if_neg (by decide), if_pos rfl, if_pos he]
theorem kq_read {l : List UInt8} (h0 : (wordF l).1 ≠ wWrite) (h : (wordF l).1 = wRead) : KindQ l 2 114 := ⟨h0, .inl ⟨rfl, h, rfl⟩⟩
theorem kq_trim {l : List UInt8} (h0 : (wordF l).1 ≠ wWrite) (h : (wordF l).1 = wTrim) : KindQ l 2 116 := ⟨h0, .inr (.inl ⟨rfl, h, rfl⟩)⟩
theorem kq_cut {l : List UInt8} (h0 : (wordF l).1 ≠ wWrite) (h : (wordF l).1 = wCut) : KindQ l 1 99 := ⟨h0, .inr (.inr (.inl ⟨rfl, h, rfl⟩))⟩
theorem kq_fail {l : List UInt8} (h0 : (wordF l).1 ≠ wWrite) (h : (wordF l).1 = wFail) : KindQ l 1 102 := ⟨h0, .inr (.inr (.inr (.inl ⟨rfl, h, rfl⟩)))⟩
theorem kq_mount {l : List UInt8} (h0 : (wordF l).1 ≠ wWrite) (h : (wordF l).1 = wMount) (he : (wordF (wordF l).2).1 ≠ []) : KindQ l 1 109 := ⟨h0, .inr (.inr (.inr (.inr (.inl ⟨rfl, h, rfl, he⟩))))⟩
theorem kq_zero {l : List UInt8} (h0 : (wordF l).1 ≠ wWrite) (h1 : (wordF l).1 ≠ wRead) (h2 : (wordF l).1 ≠ wTrim) (h3 : (wordF l).1 ≠ wCut) (h4 : (wordF l).1 ≠ wFail) (h5 : (wordF l).1 ≠ wMount) :
  KindQ l 0 (if (wordF l).1 = wShow then 115 else if (wordF l).1 = wStat then 105 else 0) := by
 refine ⟨h0, .inr (.inr (.inr (.inr (.inr ⟨rfl, h1, h2, h3, h4, h5, ?_⟩))))⟩
 by_cases g : (wordF l).1 = wShow
 · rw [if_pos g]; exact .inl ⟨rfl, g⟩
 ·
  rw [if_neg g]
  by_cases g2 : (wordF l).1 = wStat
  · rw [if_pos g2]; exact .inr (.inl ⟨rfl, g2⟩)
  · rw [if_neg g2]; exact .inr (.inr ⟨rfl, g, g2⟩)
theorem kq_le {l : List UInt8} {many kind : Nat} (h : KindQ l many kind) : many ≤ 2 := by
 obtain ⟨_, h⟩ := h
 rcases h with ⟨_, _, h⟩ | ⟨_, _, h⟩ | ⟨_, _, h⟩ | ⟨_, _, h⟩ | ⟨_, _, h, _⟩ | ⟨h, _⟩ <;> omega

theorem Command_spec (A : Assn) (hA : Glob 1 2 A) (l : List UInt8) (hl : l.length ≤ 100000000) : Ctr Tryd.prog 14 [strV l] [A] (fun w Ps => ∃ cv ok, w = .tuple #[cv, .bool ok] ∧ cv.oneCell' = true ∧ ((ok = true ∧ ∃ c, lineF l = some c ∧ cv = cmV c) ∨ (ok = false ∧ lineF l = none)) ∧ Ps = [A]) := by
 refine Ctr.of_body Tryd.func14 rfl (by kernel_rfl) Tryd.ntmps14 rfl rfl (fun Fr => ?_)
 have hwl := word_len l
 refine T.seq fun K1 hK1 => ?_
 refine T.region (l := [0, 1]) rfl ?_
 refine RN.a rfl ?_
 refine RN.a rfl ?_
 refine RN.nil ?_
 refine hK1 _ _ ?_
 refine T.seq fun K2 hK2 => ?_
 refine T.region (l := [0, 1, 2, 3, 4, 5, 6]) rfl ?_
 refine RN.m rfl ?_
 refine RN.C [] rfl rfl rfl rfl (c_call rfl rfl) (Word_f l (by omega)) rfl ?_
 rintro _ _ ⟨rfl, rfl⟩
 refine RN.m rfl ?_
 refine RN.p rfl (p_extract rfl rfl rfl) ?_
 refine RN.p rfl (p_extract rfl rfl rfl) ?_
 refine RN.a rfl ?_
 refine RN.a rfl ?_
 refine RN.nil ?_
 refine hK2 _ _ ?_
 refine T.seq fun K3 hK3 => ?_
 refine T.region (l := [0]) rfl ?_
 refine RN.a rfl ?_
 refine RN.nil ?_
 refine hK3 _ _ ?_
 refine T.cut (G := Nat × Nat) (fun ⟨many, kind⟩ => KindQ l many kind) (fun ⟨many, kind⟩ => [(4, strV (wordF l).1), (5, strV (wordF l).2), (6, intV many)]) (fun ⟨many, kind⟩ => [A, Fr]) ?_ ?_
 ·
  refine T.seq fun K5 hK5 => ?_
  refine T.region (l := [0]) rfl ?_
  refine RN.m rfl ?_
  refine RN.nil ?_
  refine hK5 _ _ ?_
  refine T.block ?_
  refine T.seq fun K6 hK6 => ?_
  refine T.region (l := [0, 1]) rfl ?_
  refine RN.p rfl (p_seql rfl rfl rfl) ?_
  refine RN.a rfl ?_
  refine RN.nil ?_
  refine hK6 _ _ ?_
  first | refine T.cond_dec rfl (fun h15 => ?_) (fun h15 => ?_) | refine T.cond rfl (fun h15 => ?_) (fun h15 => ?_)
  ·
   refine T.seq fun K7 hK7 => ?_
   refine T.region (l := [0, 1, 2, 3, 4, 5]) rfl ?_
   refine RN.m rfl ?_
   refine RN.C [0] rfl rfl rfl rfl (c_call rfl rfl) (Write_cmd A hA (wordF l).2 (by omega)) rfl ?_
   rintro _ _ ⟨cv, ok, rfl, hone, hx, rfl⟩
   refine RN.p rfl (p_extract rfl rfl rfl) ?_
   refine RN.p rfl (p_extract rfl rfl rfl) ?_
   refine RN.a rfl ?_
   refine RN.a rfl ?_
   refine RN.nil ?_
   refine hK7 _ _ ?_
   refine T.ret ?_
   refine Post.block_r ?_
   refine Post.seq_r ?_
   refine bodyQ_ret [A] (RetRun.tmp (RetRun.tmp RetRun.nil)) ⟨cv, ok, rfl, hone, by rw [line_write h15]; exact hx, rfl⟩ (Ent.refl _)
  ·
   refine T.seq fun K8 hK8 => ?_
   refine T.seq fun K9 hK9 => ?_
   refine T.region (l := [0, 1]) rfl ?_
   refine RN.p rfl (p_seql rfl rfl rfl) ?_
   refine RN.a rfl ?_
   refine RN.nil ?_
   refine hK9 _ _ ?_
   first | refine T.cond_dec rfl (fun h21 => ?_) (fun h21 => ?_) | refine T.cond rfl (fun h21 => ?_) (fun h21 => ?_)
   ·
    first | refine T.known 21 rfl (congrArg Value.bool (decide_eq_true h21)) ?_ | refine T.known 21 rfl (congrArg Value.bool h21) ?_
    refine T.skip ?_
    refine hK8 _ _ ?_
    refine T.cond_t rfl ?_
    refine T.region (l := [0]) rfl ?_
    refine RN.a rfl ?_
    refine RN.nil ?_
    refine ⟨(2, 114), (kq_read h15 h21), (LiveIs.cons rfl (LiveIs.cons rfl (LiveIs.cons rfl LiveIs.nil))), Ent.refl _⟩
   ·
    first | refine T.known 21 rfl (congrArg Value.bool (decide_eq_false h21)) ?_ | refine T.known 21 rfl (congrArg Value.bool h21) ?_
    refine T.region (l := [0, 1]) rfl ?_
    refine RN.p rfl (p_seql rfl rfl rfl) ?_
    refine RN.a rfl ?_
    refine RN.nil ?_
    refine hK8 _ _ ?_
    first | refine T.cond_dec rfl (fun h21 => ?_) (fun h21 => ?_) | refine T.cond rfl (fun h21 => ?_) (fun h21 => ?_)
    ·
     first | refine T.known 21 rfl (congrArg Value.bool (decide_eq_true h21)) ?_ | refine T.known 21 rfl (congrArg Value.bool h21) ?_
     refine T.region (l := [0]) rfl ?_
     refine RN.a rfl ?_
     refine RN.nil ?_
     refine ⟨(2, 116), (kq_trim h15 h21), (LiveIs.cons rfl (LiveIs.cons rfl (LiveIs.cons rfl LiveIs.nil))), Ent.refl _⟩
    ·
     first | refine T.known 21 rfl (congrArg Value.bool (decide_eq_false h21)) ?_ | refine T.known 21 rfl (congrArg Value.bool h21) ?_
     refine T.seq fun K10 hK10 => ?_
     refine T.seq fun K11 hK11 => ?_
     refine T.region (l := [0, 1]) rfl ?_
     refine RN.p rfl (p_seql rfl rfl rfl) ?_
     refine RN.a rfl ?_
     refine RN.nil ?_
     refine hK11 _ _ ?_
     first | refine T.cond_dec rfl (fun h24 => ?_) (fun h24 => ?_) | refine T.cond rfl (fun h24 => ?_) (fun h24 => ?_)
     ·
      first | refine T.known 24 rfl (congrArg Value.bool (decide_eq_true h24)) ?_ | refine T.known 24 rfl (congrArg Value.bool h24) ?_
      refine T.skip ?_
      refine hK10 _ _ ?_
      refine T.cond_t rfl ?_
      refine T.region (l := [0]) rfl ?_
      refine RN.a rfl ?_
      refine RN.nil ?_
      refine ⟨(1, 99), (kq_cut h15 h24), (LiveIs.cons rfl (LiveIs.cons rfl (LiveIs.cons rfl LiveIs.nil))), Ent.refl _⟩
     ·
      first | refine T.known 24 rfl (congrArg Value.bool (decide_eq_false h24)) ?_ | refine T.known 24 rfl (congrArg Value.bool h24) ?_
      refine T.region (l := [0, 1]) rfl ?_
      refine RN.p rfl (p_seql rfl rfl rfl) ?_
      refine RN.a rfl ?_
      refine RN.nil ?_
      refine hK10 _ _ ?_
      first | refine T.cond_dec rfl (fun h24 => ?_) (fun h24 => ?_) | refine T.cond rfl (fun h24 => ?_) (fun h24 => ?_)
      ·
       first | refine T.known 24 rfl (congrArg Value.bool (decide_eq_true h24)) ?_ | refine T.known 24 rfl (congrArg Value.bool h24) ?_
       refine T.region (l := [0]) rfl ?_
       refine RN.a rfl ?_
       refine RN.nil ?_
       refine ⟨(1, 102), (kq_fail h15 h24), (LiveIs.cons rfl (LiveIs.cons rfl (LiveIs.cons rfl LiveIs.nil))), Ent.refl _⟩
      ·
       first | refine T.known 24 rfl (congrArg Value.bool (decide_eq_false h24)) ?_ | refine T.known 24 rfl (congrArg Value.bool h24) ?_
       refine T.seq fun K12 hK12 => ?_
       refine T.region (l := [0, 1]) rfl ?_
       refine RN.p rfl (p_seql rfl rfl rfl) ?_
       refine RN.a rfl ?_
       refine RN.nil ?_
       refine hK12 _ _ ?_
       first | refine T.cond_dec rfl (fun h27 => ?_) (fun h27 => ?_) | refine T.cond rfl (fun h27 => ?_) (fun h27 => ?_)
       ·
        refine T.seq fun K13 hK13 => ?_
        refine T.seq fun K14 hK14 => ?_
        refine T.region (l := [0, 1]) rfl ?_
        refine RN.m rfl ?_
        refine RN.C [] rfl rfl rfl rfl (c_call rfl rfl) (Empty_spec (wordF l).2 (by omega)) rfl ?_
        rintro _ _ ⟨rfl, rfl⟩
        refine RN.nil ?_
        refine hK14 _ _ ?_
        first | refine T.cond_dec rfl (fun h30 => ?_) (fun h30 => ?_) | refine T.cond rfl (fun h30 => ?_) (fun h30 => ?_)
        ·
         refine T.seq fun K15 hK15 => ?_
         refine T.region (l := [0, 1, 2, 3]) rfl ?_
         refine RN.p rfl (p_build rfl pl_47 ti_47 (by dsimp [layAll, lay]; rfl)) ?_
         refine RN.p rfl (p_makeIface rfl Tryd.underlying47 rfl) ?_
         refine RN.a rfl ?_
         refine RN.a rfl ?_
         refine RN.nil ?_
         refine hK15 _ _ ?_
         refine T.ret ?_
         refine Post.seq_r ?_
         refine Post.block_r ?_
         refine Post.seq_r ?_
         refine bodyQ_ret [A] (RetRun.tmp (RetRun.tmp RetRun.nil)) ⟨_, true, rfl, rfl, .inl ⟨rfl, _, line_mount0 h27 h30, rfl⟩, rfl⟩ (Ent.refl _)
        ·
         refine T.skip ?_
         refine hK13 _ _ ?_
         refine T.region (l := [0]) rfl ?_
         refine RN.a rfl ?_
         refine RN.nil ?_
         refine ⟨(1, 109), (kq_mount h15 h27 h30), (LiveIs.cons rfl (LiveIs.cons rfl (LiveIs.cons rfl LiveIs.nil))), Ent.refl _⟩
       ·
        refine T.skip ?_
        refine ⟨(0, _), (kq_zero h15 (by assumption) (by assumption) (by assumption) (by assumption) h27), (LiveIs.cons rfl (LiveIs.cons rfl (LiveIs.cons rfl LiveIs.nil))), Ent.refl _⟩
 ·
  rintro ⟨many, kind⟩ e4 hk
  dsimp only at hk ⊢
  refine T.seq fun K16 hK16 => ?_
  refine T.region (l := [0, 1, 2, 3, 4, 5, 6, 7, 8, 9]) rfl ?_
  refine RN.m rfl ?_
  refine RN.m rfl ?_
  refine RN.C [] rfl rfl rfl rfl (c_call rfl rfl) (Numbers_spec (wordF l).2 many (kq_le hk) (by omega)) rfl ?_
  rintro _ _ ⟨v4, r, ok, acc, rfl, hx, hv4, hrl, rfl⟩
  refine RN.m rfl ?_
  refine RN.p rfl (p_extract rfl rfl rfl) ?_
  refine RN.p rfl (p_extract rfl rfl rfl) ?_
  refine RN.p rfl (p_extract rfl rfl rfl) ?_
  refine RN.a rfl ?_
  refine RN.a rfl ?_
  refine RN.a rfl ?_
  refine RN.nil ?_
  refine hK16 _ _ ?_
  refine T.seq fun K17 hK17 => ?_
  refine T.seq fun K18 hK18 => ?_
  refine T.region (l := [0, 1, 2, 3, 4, 5, 6]) rfl ?_
  refine RN.m rfl ?_
  refine RN.p rfl (by first | exact (p_not_dec rfl rfl) | exact (p_not rfl rfl)) ?_
  refine RN.m rfl ?_
  first | refine RN.split_dec 42 rfl (fun h42 => ?_) (fun h42 => ?_) | refine RN.split 42 rfl (fun h42 => ?_) (fun h42 => ?_)
  ·
   have hno : numsF many (wordF l).2 = none := by
    rcases hx with ⟨h, _⟩ | ⟨_, h⟩
    · rw [h] at h42; simp at h42
    · exact h
   refine RN.no0 rfl ?_
   refine RN.no0 rfl ?_
   refine RN.no0 rfl ?_
   refine RN.pt rfl ?_
   refine RN.nil ?_
   refine hK18 _ _ ?_
   refine T.cond_t rfl ?_
   refine T.seq fun K19 hK19 => ?_
   refine T.region (l := [0, 1]) rfl ?_
   refine RN.a rfl ?_
   refine RN.a rfl ?_
   refine RN.nil ?_
   refine hK19 _ _ ?_
   refine T.ret ?_
   refine Post.seq_r ?_
   refine bodyQ_ret [A] (RetRun.tmp (RetRun.tmp RetRun.nil)) ⟨.nilIface, false, rfl, rfl, .inr ⟨rfl, line_none hk hno⟩, rfl⟩ (Ent.pull_drop (is := [1, 1]) rfl)
  ·
   have hyes : numsF many (wordF l).2 = some (acc, r) := by
    rcases hx with ⟨_, h⟩ | ⟨h, _⟩
    · exact h
    · rw [h] at h42; simp at h42
   refine RN.m rfl ?_
   refine RN.C [] rfl rfl rfl rfl (c_call rfl rfl) (Empty_spec r (by omega)) rfl ?_
   rintro _ _ ⟨rfl, rfl⟩
   refine RN.p rfl (by first | exact (p_not_dec rfl rfl) | exact (p_not rfl rfl)) ?_
   refine RN.pf rfl ?_
   refine RN.nil ?_
   refine hK18 _ _ ?_
   first | refine T.cond_dec rfl (fun h46 => ?_) (fun h46 => ?_) | refine T.cond rfl (fun h46 => ?_) (fun h46 => ?_)
   ·
    refine T.seq fun K20 hK20 => ?_
    refine T.region (l := [0, 1]) rfl ?_
    refine RN.a rfl ?_
    refine RN.a rfl ?_
    refine RN.nil ?_
    refine hK20 _ _ ?_
    refine T.ret ?_
    refine Post.seq_r ?_
    refine bodyQ_ret [A] (RetRun.tmp (RetRun.tmp RetRun.nil)) ⟨.nilIface, false, rfl, rfl, .inr ⟨rfl, line_left hk hyes h46⟩, rfl⟩ (Ent.pull_drop (is := [1, 1]) rfl)
   ·
    have hem := Classical.not_not.1 h46
    refine T.skip ?_
    refine hK17 _ _ ?_
    refine T.seq fun K21 hK21 => ?_
    refine T.seq fun K22 hK22 => ?_
    refine T.region (l := [0]) rfl ?_
    refine RN.m rfl ?_
    refine RN.nil ?_
    refine hK22 _ _ ?_
    refine T.block ?_
    refine T.seq fun K23 hK23 => ?_
    refine T.region (l := [0, 1]) rfl ?_
    refine RN.p rfl (p_seql rfl rfl rfl) ?_
    refine RN.a rfl ?_
    refine RN.nil ?_
    refine hK23 _ _ ?_
    first | refine T.cond_dec rfl (fun h48 => ?_) (fun h48 => ?_) | refine T.cond rfl (fun h48 => ?_) (fun h48 => ?_)
    ·
     obtain ⟨rfl, rfl⟩ := (kind_of hk).1 h48
     obtain ⟨x, y, rfl⟩ := two_acc (nums_len _ _ _ _ hyes)
     refine T.openVec 0 rfl (by simp) ?_
     rintro bV cap rest rfl c1 c2 c3
     refine T.seq fun K24 hK24 => ?_
     refine T.regionD (z := 10) (Bs := [row bV 3 (([x, y].map iC) ++ rest)]) (l := [(0, .pure), (1, .pure), (2, .load), (3, .pure), (4, .pure), (5, .load), (6, .pure), (7, .pure), (8, .pure), (9, .pure)]) mixed (by kernel_rfl) (by first | exact Ent.refl _ | exact Ent.pull_drop (is := [0]) rfl | exact Ent.pull_drop (is := [1]) rfl | exact Ent.pull_drop (is := [2]) rfl | exact Ent.pull_drop (is := [3]) rfl | exact Ent.pull_drop (is := [4]) rfl | exact Ent.pull_drop (is := [5]) rfl | exact Ent.pull_drop (is := [6]) rfl | exact Ent.pull_drop (is := [7]) rfl) ?_
     refine RD.n rfl (p_move rfl (by conv => lhs; whnf)) ?_
     refine RD.n rfl (by first | exact (p_indexAddr1N (i := 0) rfl Tryd.underlying63 ts_3 rfl rfl (by simp)) | exact (p_indexAddr1 rfl Tryd.underlying63 ts_3 rfl rfl (by simp))) ?_
     refine RD.qq rfl rfl rfl rfl (by first | exact (q_load rfl sc_3 rfl (i := 0) rfl rfl) | exact (q_load rfl sc_3 rfl (i := 1) rfl rfl) | exact (q_load rfl sc_3 rfl (i := 2) rfl rfl) | exact (q_load rfl sc_3 rfl (i := 3) rfl rfl) | exact (q_load rfl sc_3 rfl (i := 4) rfl rfl)) (by first | exact Ent.refl _ | exact Ent.pull_drop (is := [0]) rfl | exact Ent.pull_drop (is := [1]) rfl | exact Ent.pull_drop (is := [2]) rfl | exact Ent.pull_drop (is := [3]) rfl | exact Ent.pull_drop (is := [4]) rfl | exact Ent.pull_drop (is := [5]) rfl | exact Ent.pull_drop (is := [6]) rfl | exact Ent.pull_drop (is := [7]) rfl) ?_
     refine RD.n rfl (p_move rfl (by conv => lhs; whnf)) ?_
     refine RD.n rfl (by first | exact (p_indexAddr1N (i := 1) rfl Tryd.underlying63 ts_3 rfl rfl (by simp)) | exact (p_indexAddr1 rfl Tryd.underlying63 ts_3 rfl rfl (by simp))) ?_
     refine RD.qq rfl rfl rfl rfl (by first | exact (q_load rfl sc_3 rfl (i := 0) rfl rfl) | exact (q_load rfl sc_3 rfl (i := 1) rfl rfl) | exact (q_load rfl sc_3 rfl (i := 2) rfl rfl) | exact (q_load rfl sc_3 rfl (i := 3) rfl rfl) | exact (q_load rfl sc_3 rfl (i := 4) rfl rfl)) (by first | exact Ent.refl _ | exact Ent.pull_drop (is := [0]) rfl | exact Ent.pull_drop (is := [1]) rfl | exact Ent.pull_drop (is := [2]) rfl | exact Ent.pull_drop (is := [3]) rfl | exact Ent.pull_drop (is := [4]) rfl | exact Ent.pull_drop (is := [5]) rfl | exact Ent.pull_drop (is := [6]) rfl | exact Ent.pull_drop (is := [7]) rfl) ?_
     refine RD.n rfl (p_build rfl pl_42 ti_42 (by dsimp [layAll, lay]; rfl)) ?_
     refine RD.n rfl (p_makeIface rfl Tryd.underlying42 rfl) ?_
     refine RD.n rfl (p_assign rfl (by conv => lhs; whnf)) ?_
     refine RD.n rfl (p_assign rfl (by conv => lhs; whnf)) ?_
     refine RD.nil ?_
     refine hK24 _ _ ?_
     refine T.ret ?_
     refine Post.block_r ?_
     refine Post.seq_r ?_
     refine bodyQ_ret [A] (RetRun.tmp (RetRun.tmp RetRun.nil)) ⟨_, true, rfl, rfl, .inl ⟨rfl, _, line_yes hk (by decide) hyes hem, rfl⟩, rfl⟩ (Ent.pull_drop (is := [1, 1]) rfl)
    ·
     refine T.seq fun K25 hK25 => ?_
     refine T.region (l := [0, 1]) rfl ?_
     refine RN.p rfl (p_seql rfl rfl rfl) ?_
     refine RN.a rfl ?_
     refine RN.nil ?_
     refine hK25 _ _ ?_
     first | refine T.cond_dec rfl (fun h58 => ?_) (fun h58 => ?_) | refine T.cond rfl (fun h58 => ?_) (fun h58 => ?_)
     ·
      obtain ⟨rfl, rfl⟩ := (kind_of hk).2.1 h58
      obtain ⟨x, y, rfl⟩ := two_acc (nums_len _ _ _ _ hyes)
      refine T.openVec 0 rfl (by simp) ?_
      rintro bV cap rest rfl c1 c2 c3
      refine T.seq fun K26 hK26 => ?_
      refine T.regionD (z := 10) (Bs := [row bV 3 (([x, y].map iC) ++ rest)]) (l := [(0, .pure), (1, .pure), (2, .load), (3, .pure), (4, .pure), (5, .load), (6, .pure), (7, .pure), (8, .pure), (9, .pure)]) mixed (by kernel_rfl) (by first | exact Ent.refl _ | exact Ent.pull_drop (is := [0]) rfl | exact Ent.pull_drop (is := [1]) rfl | exact Ent.pull_drop (is := [2]) rfl | exact Ent.pull_drop (is := [3]) rfl | exact Ent.pull_drop (is := [4]) rfl | exact Ent.pull_drop (is := [5]) rfl | exact Ent.pull_drop (is := [6]) rfl | exact Ent.pull_drop (is := [7]) rfl) ?_
      refine RD.n rfl (p_move rfl (by conv => lhs; whnf)) ?_
      refine RD.n rfl (by first | exact (p_indexAddr1N (i := 0) rfl Tryd.underlying63 ts_3 rfl rfl (by simp)) | exact (p_indexAddr1 rfl Tryd.underlying63 ts_3 rfl rfl (by simp))) ?_
      refine RD.qq rfl rfl rfl rfl (by first | exact (q_load rfl sc_3 rfl (i := 0) rfl rfl) | exact (q_load rfl sc_3 rfl (i := 1) rfl rfl) | exact (q_load rfl sc_3 rfl (i := 2) rfl rfl) | exact (q_load rfl sc_3 rfl (i := 3) rfl rfl) | exact (q_load rfl sc_3 rfl (i := 4) rfl rfl)) (by first | exact Ent.refl _ | exact Ent.pull_drop (is := [0]) rfl | exact Ent.pull_drop (is := [1]) rfl | exact Ent.pull_drop (is := [2]) rfl | exact Ent.pull_drop (is := [3]) rfl | exact Ent.pull_drop (is := [4]) rfl | exact Ent.pull_drop (is := [5]) rfl | exact Ent.pull_drop (is := [6]) rfl | exact Ent.pull_drop (is := [7]) rfl) ?_
      refine RD.n rfl (p_move rfl (by conv => lhs; whnf)) ?_
      refine RD.n rfl (by first | exact (p_indexAddr1N (i := 1) rfl Tryd.underlying63 ts_3 rfl rfl (by simp)) | exact (p_indexAddr1 rfl Tryd.underlying63 ts_3 rfl rfl (by simp))) ?_
      refine RD.qq rfl rfl rfl rfl (by first | exact (q_load rfl sc_3 rfl (i := 0) rfl rfl) | exact (q_load rfl sc_3 rfl (i := 1) rfl rfl) | exact (q_load rfl sc_3 rfl (i := 2) rfl rfl) | exact (q_load rfl sc_3 rfl (i := 3) rfl rfl) | exact (q_load rfl sc_3 rfl (i := 4) rfl rfl)) (by first | exact Ent.refl _ | exact Ent.pull_drop (is := [0]) rfl | exact Ent.pull_drop (is := [1]) rfl | exact Ent.pull_drop (is := [2]) rfl | exact Ent.pull_drop (is := [3]) rfl | exact Ent.pull_drop (is := [4]) rfl | exact Ent.pull_drop (is := [5]) rfl | exact Ent.pull_drop (is := [6]) rfl | exact Ent.pull_drop (is := [7]) rfl) ?_
      refine RD.n rfl (p_build rfl pl_43 ti_43 (by dsimp [layAll, lay]; rfl)) ?_
      refine RD.n rfl (p_makeIface rfl Tryd.underlying43 rfl) ?_
      refine RD.n rfl (p_assign rfl (by conv => lhs; whnf)) ?_
      refine RD.n rfl (p_assign rfl (by conv => lhs; whnf)) ?_
      refine RD.nil ?_
      refine hK26 _ _ ?_
      refine T.ret ?_
      refine Post.block_r ?_
      refine Post.seq_r ?_
      refine bodyQ_ret [A] (RetRun.tmp (RetRun.tmp RetRun.nil)) ⟨_, true, rfl, rfl, .inl ⟨rfl, _, line_yes hk (by decide) hyes hem, rfl⟩, rfl⟩ (Ent.pull_drop (is := [1, 1]) rfl)
     ·
      refine T.seq fun K27 hK27 => ?_
      refine T.region (l := [0, 1]) rfl ?_
      refine RN.p rfl (p_seql rfl rfl rfl) ?_
      refine RN.a rfl ?_
      refine RN.nil ?_
      refine hK27 _ _ ?_
      first | refine T.cond_dec rfl (fun h68 => ?_) (fun h68 => ?_) | refine T.cond rfl (fun h68 => ?_) (fun h68 => ?_)
      ·
       obtain ⟨rfl, rfl⟩ := (kind_of hk).2.2.1 h68
       obtain ⟨x, rfl⟩ := one_acc (nums_len _ _ _ _ hyes)
       refine T.openVec 0 rfl (by simp) ?_
       rintro bV cap rest rfl c1 c2 c3
       refine T.seq fun K28 hK28 => ?_
       refine T.region (l := [0, 1, 2, 3, 4, 5, 6]) rfl ?_
       refine RN.m rfl ?_
       refine RN.p rfl (by first | exact (p_indexAddr1N (i := 0) rfl Tryd.underlying63 ts_3 rfl rfl (by simp)) | exact (p_indexAddr1 rfl Tryd.underlying63 ts_3 rfl rfl (by simp))) ?_
       refine RN.u rfl (q_load rfl sc_3 rfl (i := 0) rfl rfl) ?_
       refine RN.p rfl (p_build rfl pl_45 ti_45 (by dsimp [layAll, lay]; rfl)) ?_
       refine RN.p rfl (p_makeIface rfl Tryd.underlying45 rfl) ?_
       refine RN.a rfl ?_
       refine RN.a rfl ?_
       refine RN.nil ?_
       refine hK28 _ _ ?_
       refine T.ret ?_
       refine Post.block_r ?_
       refine Post.seq_r ?_
       refine bodyQ_ret [A] (RetRun.tmp (RetRun.tmp RetRun.nil)) ⟨_, true, rfl, rfl, .inl ⟨rfl, _, line_yes hk (by decide) hyes hem, rfl⟩, rfl⟩ (Ent.pull_drop (is := [1, 1]) rfl)
      ·
       refine T.seq fun K29 hK29 => ?_
       refine T.region (l := [0, 1]) rfl ?_
       refine RN.p rfl (p_seql rfl rfl rfl) ?_
       refine RN.a rfl ?_
       refine RN.nil ?_
       refine hK29 _ _ ?_
       first | refine T.cond_dec rfl (fun h75 => ?_) (fun h75 => ?_) | refine T.cond rfl (fun h75 => ?_) (fun h75 => ?_)
       ·
        obtain ⟨rfl, rfl⟩ := (kind_of hk).2.2.2.1 h75
        obtain ⟨x, rfl⟩ := one_acc (nums_len _ _ _ _ hyes)
        refine T.openVec 0 rfl (by simp) ?_
        rintro bV cap rest rfl c1 c2 c3
        refine T.seq fun K30 hK30 => ?_
        refine T.region (l := [0, 1, 2, 3, 4, 5, 6]) rfl ?_
        refine RN.m rfl ?_
        refine RN.p rfl (by first | exact (p_indexAddr1N (i := 0) rfl Tryd.underlying63 ts_3 rfl rfl (by simp)) | exact (p_indexAddr1 rfl Tryd.underlying63 ts_3 rfl rfl (by simp))) ?_
        refine RN.u rfl (q_load rfl sc_3 rfl (i := 0) rfl rfl) ?_
        refine RN.p rfl (p_build rfl pl_46 ti_46 (by dsimp [layAll, lay]; rfl)) ?_
        refine RN.p rfl (p_makeIface rfl Tryd.underlying46 rfl) ?_
        refine RN.a rfl ?_
        refine RN.a rfl ?_
        refine RN.nil ?_
        refine hK30 _ _ ?_
        refine T.ret ?_
        refine Post.block_r ?_
        refine Post.seq_r ?_
        refine bodyQ_ret [A] (RetRun.tmp (RetRun.tmp RetRun.nil)) ⟨_, true, rfl, rfl, .inl ⟨rfl, _, line_yes hk (by decide) hyes hem, rfl⟩, rfl⟩ (Ent.pull_drop (is := [1, 1]) rfl)
       ·
        refine T.seq fun K31 hK31 => ?_
        refine T.region (l := [0, 1]) rfl ?_
        refine RN.p rfl (p_seql rfl rfl rfl) ?_
        refine RN.a rfl ?_
        refine RN.nil ?_
        refine hK31 _ _ ?_
        first | refine T.cond_dec rfl (fun h82 => ?_) (fun h82 => ?_) | refine T.cond rfl (fun h82 => ?_) (fun h82 => ?_)
        ·
         obtain ⟨rfl, rfl⟩ := (kind_of hk).2.2.2.2.1 h82
         obtain ⟨x, rfl⟩ := one_acc (nums_len _ _ _ _ hyes)
         refine T.openVec 0 rfl (by simp) ?_
         rintro bV cap rest rfl c1 c2 c3
         refine T.seq fun K32 hK32 => ?_
         refine T.region (l := [0, 1, 2, 3, 4, 5, 6]) rfl ?_
         refine RN.m rfl ?_
         refine RN.p rfl (by first | exact (p_indexAddr1N (i := 0) rfl Tryd.underlying63 ts_3 rfl rfl (by simp)) | exact (p_indexAddr1 rfl Tryd.underlying63 ts_3 rfl rfl (by simp))) ?_
         refine RN.u rfl (q_load rfl sc_3 rfl (i := 0) rfl rfl) ?_
         refine RN.p rfl (p_build rfl pl_47 ti_47 (by dsimp [layAll, lay]; rfl)) ?_
         refine RN.p rfl (p_makeIface rfl Tryd.underlying47 rfl) ?_
         refine RN.a rfl ?_
         refine RN.a rfl ?_
         refine RN.nil ?_
         refine hK32 _ _ ?_
         refine T.ret ?_
         refine Post.block_r ?_
         refine Post.seq_r ?_
         refine bodyQ_ret [A] (RetRun.tmp (RetRun.tmp RetRun.nil)) ⟨_, true, rfl, rfl, .inl ⟨rfl, _, line_yes hk (by decide) hyes hem, rfl⟩, rfl⟩ (Ent.pull_drop (is := [1, 1]) rfl)
        ·
         refine T.seq fun K33 hK33 => ?_
         refine T.region (l := [0, 1]) rfl ?_
         refine RN.p rfl (p_seql rfl rfl rfl) ?_
         refine RN.a rfl ?_
         refine RN.nil ?_
         refine hK33 _ _ ?_
         first | refine T.cond_dec rfl (fun h89 => ?_) (fun h89 => ?_) | refine T.cond rfl (fun h89 => ?_) (fun h89 => ?_)
         ·
          obtain rfl := (kind_of hk).2.2.2.2.2.1 h89
          refine T.seq fun K34 hK34 => ?_
          refine T.region (l := [0, 1, 2, 3]) rfl ?_
          refine RN.p rfl (p_build rfl pl_49 ti_49 (by dsimp [layAll, lay]; rfl)) ?_
          refine RN.p rfl (p_makeIface rfl Tryd.underlying49 rfl) ?_
          refine RN.a rfl ?_
          refine RN.a rfl ?_
          refine RN.nil ?_
          refine hK34 _ _ ?_
          refine T.ret ?_
          refine Post.block_r ?_
          refine Post.seq_r ?_
          refine bodyQ_ret [A] (RetRun.tmp (RetRun.tmp RetRun.nil)) ⟨_, true, rfl, rfl, .inl ⟨rfl, _, line_yes hk (by decide) hyes hem, rfl⟩, rfl⟩ (Ent.pull_drop (is := [1, 1]) rfl)
         ·
          refine T.seq fun K35 hK35 => ?_
          refine T.region (l := [0, 1]) rfl ?_
          refine RN.p rfl (p_seql rfl rfl rfl) ?_
          refine RN.a rfl ?_
          refine RN.nil ?_
          refine hK35 _ _ ?_
          first | refine T.cond_dec rfl (fun h93 => ?_) (fun h93 => ?_) | refine T.cond rfl (fun h93 => ?_) (fun h93 => ?_)
          ·
           obtain rfl := (kind_of hk).2.2.2.2.2.2.1 h93
           refine T.seq fun K36 hK36 => ?_
           refine T.region (l := [0, 1, 2, 3]) rfl ?_
           refine RN.p rfl (p_build rfl pl_50 ti_50 (by dsimp [layAll, lay]; rfl)) ?_
           refine RN.p rfl (p_makeIface rfl Tryd.underlying50 rfl) ?_
           refine RN.a rfl ?_
           refine RN.a rfl ?_
           refine RN.nil ?_
           refine hK36 _ _ ?_
           refine T.ret ?_
           refine Post.block_r ?_
           refine Post.seq_r ?_
           refine bodyQ_ret [A] (RetRun.tmp (RetRun.tmp RetRun.nil)) ⟨_, true, rfl, rfl, .inl ⟨rfl, _, line_yes hk (by decide) hyes hem, rfl⟩, rfl⟩ (Ent.pull_drop (is := [1, 1]) rfl)
          ·
           refine T.skip ?_
           refine hK21 _ _ ?_
           refine T.seq fun K37 hK37 => ?_
           refine T.region (l := [0, 1]) rfl ?_
           refine RN.a rfl ?_
           refine RN.a rfl ?_
           refine RN.nil ?_
           refine hK37 _ _ ?_
           refine T.ret ?_
           obtain rfl := (kind_of hk).2.2.2.2.2.2.2 h48 h58 h68 h75 h82 h89 h93
           refine bodyQ_ret [A] (RetRun.tmp (RetRun.tmp RetRun.nil)) ⟨.nilIface, false, rfl, rfl, .inr ⟨rfl, line_unknown hk⟩, rfl⟩ (Ent.pull_drop (is := [1, 1]) rfl)

end Go.Proofs.YtokbjejbgbdkoaaDoor
