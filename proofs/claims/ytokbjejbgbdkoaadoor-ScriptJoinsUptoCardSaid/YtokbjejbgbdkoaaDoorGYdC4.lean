/-
 A text read: walked.
-/
import Derived.Test.YtokbjejbgbdkoaaDoorGYdC2
import Derived.Test.YtokbjejbgbdkoaaDoorGModelC
set_option linter.unusedVariables false
set_option linter.unusedSimpArgs false
namespace Go.Proofs.YtokbjejbgbdkoaaDoor
open Go Go.Sl Go.Proofs
set_option maxRecDepth 20000
open Go.Mo Go.Proofs Go.Shelf Go.RowKit
/-- The other package variables that the library reads. -/
structure Glob2 (P : Program) (g0 : Nat) (A : Assn) : Prop where
 maxl : ∀ W0 L w, Sat W0 (sep (A :: L)) w → ∃ m, w.cell? ⟨g0, 0, none⟩ = some (.int .i64 m)
 pow : ∀ W0 L w, Sat W0 (sep (A :: L)) w → Lib.TabIs P w "internal/strconv.uint64pow10" .u64 Lib.pow10Tab
theorem split_cells (l : List UInt8) : (Lib.splitB ⟨#[10]⟩ 0 (Lib.countB ⟨l.toArray⟩ ⟨#[10]⟩) ⟨l.toArray⟩).map Value.string = (cutsF l).map strV := by
 have h := Lib.splitB_data ⟨#[10]⟩ 0 (Lib.countB ⟨l.toArray⟩ ⟨#[10]⟩) ⟨l.toArray⟩
 have h2 : Lib.splitK [10] 0 (Lib.countB ⟨l.toArray⟩ ⟨#[10]⟩) l = cutsF l := splitK_cuts _ _ (by
  show l.count 10 ≤ Lib.count l [10]
  rw [Lib.count_one]
  exact Nat.le_refl _)
 rw [show (ByteArray.mk #[10]).data.toList = [10] from rfl, show (ByteArray.mk l.toArray).data.toList = l from rfl, h2] at h
 rw [← h, List.map_map]
 apply List.map_congr_left
 intro s _
 cases s
 unfold strV
 simp
theorem Split_spec (A : Assn) (hB : Glob2 Tryd.prog 0 A) (l : List UInt8) (hl : l.length ≤ 100000000) : Ctr Tryd.prog 17 [strV l, strV [10]] [A] (fun u Ps => ∃ b, u = slc b 0 (cutsF l).length (cutsF l).length ∧ Ps = [row b 9 ((cutsF l).map strV), A]) :=
 ⟨⟨_, Tryd.func17, by kernel_rfl, by kernel_rfl⟩, fun W0 Fr w hs => by
  obtain ⟨m, hm⟩ := hB.maxl W0 [Fr] w hs
  have h := Any.strings_Split { laysM146 with } laysM146.i9 ⟨l.toArray⟩ ⟨#[10]⟩ m w (by show l.toArray.size < 4294967281; simp; omega) hm (by decide)
  refine h.mono fun e w' ⟨he, hw⟩ => ?_
  have hc := split_cells l
  have hn : Lib.countB ⟨l.toArray⟩ ⟨#[10]⟩ + 1 = (cutsF l).length := by
   rw [← List.length_map (f := strV), ← hc, List.length_map]
   exact (Lib.splitB_all ⟨#[10]⟩ (by decide) 0 _ _ rfl).symm
  rw [hc] at hw
  rw [hn] at he
  refine ⟨_, _, he, ⟨w.heap.size, rfl, rfl⟩, ?_⟩
  rw [hw]
  exact (Sat.alloc hs (.cells ((cutsF l).map strV).toArray 9)).mono (Ent.cons (row_of_block (fun i _ => by omega)) (Ent.refl _))⟩
theorem cutsF_len : ∀ l : List UInt8, (cutsF l).length ≤ l.length + 1
 | [] => Nat.le_refl _
 | c :: r => by
  have ih := cutsF_len r
  unfold cutsF
  split
  · simp only [List.length_cons]; omega
  ·
   split
   · rename_i h; rw [h] at ih; simp only [List.length_cons] at ih ⊢; omega
   · simp
theorem lines_drop {t : List UInt8} {n : Nat} (hn : (cutsF t).length = n) (h : (cutsF t).getLast (cutsF_ne t) = []) : (linesF t).length = n - 1 ∧ (cutsF t).map strV = (linesF t).map strV ++ [strV []] := by
 have e : linesF t = (cutsF t).dropLast := by unfold linesF; rw [if_pos h]
 rw [e, List.length_dropLast, hn]
 refine ⟨rfl, ?_⟩
 have e2 := List.dropLast_concat_getLast (cutsF_ne t)
 rw [h] at e2
 conv => lhs; rw [← e2]
 rw [List.map_append]
 rfl
theorem lines_keep {t : List UInt8} (h : ¬ (cutsF t).getLast (cutsF_ne t) = []) : linesF t = cutsF t := by unfold linesF; rw [if_neg h]
theorem last_at {t : List UInt8} {n : Nat} (hn : (cutsF t).length = n) : ((cutsF t).map strV)[0 + (n - 1)]? = some (strV ((cutsF t).getLast (cutsF_ne t))) := by
 rw [Nat.zero_add, List.getElem?_map, ← hn, List.getLast_eq_getElem, List.getElem?_eq_getElem (by have := List.length_pos_iff.2 (cutsF_ne t); omega)]
 rfl
theorem str_row {ls : List (List UInt8)} {rest : List Value} {i : Nat} (hi : i < ls.length) : (ls.map strV ++ rest)[0 + i]? = some (strV ls[i]) := by
 rw [Nat.zero_add, List.getElem?_append_left (by simpa using hi), List.getElem?_map, List.getElem?_eq_getElem hi]
 rfl
theorem Lines_spec (A : Assn) (hB : Glob2 Tryd.prog 0 A) (t : List UInt8) (ht : t.length ≤ 100000000) : Ctr Tryd.prog 13 [strV t] [A] (fun w Ps => ∃ b cap rest, w = slc b 0 (linesF t).length cap ∧ Ps = [row b 9 ((linesF t).map strV ++ rest), A]) := by
 refine Ctr.of_body Tryd.func13 rfl (by kernel_rfl) Tryd.ntmps13 rfl rfl (fun Fr => ?_)
 have hne := List.length_pos_iff.2 (cutsF_ne t)
 have hcl := cutsF_len t
 refine T.seq fun K1 hK1 => ?_
 refine T.region (l := [0]) rfl ?_
 refine RN.a rfl ?_
 refine RN.nil ?_
 refine hK1 _ _ ?_
 refine T.seq fun K2 hK2 => ?_
 refine T.region (l := [0, 1, 2]) rfl ?_
 refine RN.m rfl ?_
 refine RN.C [0] rfl rfl rfl rfl (c_call rfl rfl) (Split_spec A hB t ht) rfl ?_
 rintro _ _ ⟨b5, rfl, rfl⟩
 refine RN.a rfl ?_
 refine RN.nil ?_
 refine hK2 _ _ ?_
 refine T.seq fun K3 hK3 => ?_
 refine T.seq fun K4 hK4 => ?_
 refine T.region (l := [0, 1, 2, 3, 4, 5, 6]) rfl ?_
 refine RN.m rfl ?_
 refine RN.m rfl ?_
 refine RN.p rfl (p_len rfl Tryd.underlying26 rfl) ?_
 refine RN.p rfl (by first | exact (p_subN (b := 1) rfl rfl rfl (by omega)) | exact (p_sub rfl rfl rfl (by omega))) ?_
 refine RN.p rfl (by first | exact (p_indexAddr1N rfl Tryd.underlying26 ts_9 rfl rfl (by omega)) | exact (p_indexAddr1 rfl Tryd.underlying26 ts_9 rfl rfl (by omega))) ?_
 refine RN.u rfl (q_load (v := strV ((cutsF t).getLast (cutsF_ne t))) rfl sc_9 rfl (i := 0) rfl (last_at rfl)) ?_
 refine RN.p rfl (p_seql rfl rfl rfl) ?_
 refine RN.nil ?_
 refine hK4 _ _ ?_
 first | refine T.cond_dec rfl (fun h12 => ?_) (fun h12 => ?_) | refine T.cond rfl (fun h12 => ?_) (fun h12 => ?_)
 ·
  refine T.region (l := [0, 1, 2, 3, 4, 5]) rfl ?_
  refine RN.m rfl ?_
  refine RN.m rfl ?_
  refine RN.p rfl (p_len rfl Tryd.underlying26 rfl) ?_
  refine RN.p rfl (by first | exact (p_subN (b := 1) rfl rfl rfl (by omega)) | exact (p_sub rfl rfl rfl (by omega))) ?_
  refine RN.p rfl (by first | exact (p_slice_hi rfl Tryd.underlying26 ts_9 rfl rfl (by omega)) | exact (p_sliceN (l := 0) rfl Tryd.underlying26 ts_9 rfl rfl rfl (by omega)) | exact (p_slice rfl Tryd.underlying26 ts_9 rfl rfl rfl (by omega))) ?_
  refine RN.a rfl ?_
  refine RN.nil ?_
  refine hK3 _ _ ?_
  refine T.seq fun K5 hK5 => ?_
  refine T.region (l := [0, 1]) rfl ?_
  refine RN.m rfl ?_
  refine RN.a rfl ?_
  refine RN.nil ?_
  refine hK5 _ _ ?_
  refine T.ret ?_
  obtain ⟨e1, e2⟩ := lines_drop rfl h12
  refine bodyQ_ret [row b5 9 ((linesF t).map strV ++ [strV []]), A] (RetRun.tmp RetRun.nil) ⟨b5, (cutsF t).length, [strV []], (show slc b5 0 ((cutsF t).length - 1) (cutsF t).length = slc b5 0 (linesF t).length (cutsF t).length from by rw [e1]), rfl⟩ (Ent.cons (Ent.of_eq (congrArg (row b5 9) e2)) (Ent.refl _))
 ·
  refine T.skip ?_
  refine hK3 _ _ ?_
  refine T.seq fun K6 hK6 => ?_
  refine T.region (l := [0, 1]) rfl ?_
  refine RN.m rfl ?_
  refine RN.a rfl ?_
  refine RN.nil ?_
  refine hK6 _ _ ?_
  refine T.ret ?_
  refine bodyQ_ret [row b5 9 ((linesF t).map strV ++ []), A] (RetRun.tmp RetRun.nil) ⟨b5, (cutsF t).length, [], (show slc b5 0 (cutsF t).length (cutsF t).length = slc b5 0 (linesF t).length (cutsF t).length from by rw [lines_keep h12]), rfl⟩ (Ent.cons (Ent.of_eq (by rw [lines_keep h12, List.append_nil])) (Ent.refl _))

theorem Parse_spec (A : Assn) (hA : Glob 1 2 A) (hB : Glob2 Tryd.prog 0 A) (t : List UInt8) : Ctr Tryd.prog 9 [strV t] [A] (fun w Ps => ∃ v cs n e, w = .tuple #[v, intV n, intV e] ∧ v.oneCell' = true ∧ ParseQ t cs n e ∧ Ps = [vec 40 1 v cs.length (cs.map cmV), A]) := by
 refine Ctr.of_body Tryd.func9 rfl (by kernel_rfl) Tryd.ntmps9 rfl rfl (fun Fr => ?_)
 refine T.seq fun K1 hK1 => ?_
 refine T.region (l := [0, 1, 2]) rfl ?_
 refine RN.a rfl ?_
 refine RN.a rfl ?_
 refine RN.a rfl ?_
 refine RN.nil ?_
 refine hK1 _ _ ?_
 refine T.seq fun K2 hK2 => ?_
 refine T.seq fun K3 hK3 => ?_
 refine T.region (l := [0, 1, 2]) rfl ?_
 refine RN.m rfl ?_
 refine RN.p rfl (p_len_s rfl Tryd.underlying9 rfl) ?_
 refine RN.p rfl (p_gtr rfl rfl rfl) ?_
 refine RN.nil ?_
 refine hK3 _ _ ?_
 first | refine T.cond_dec rfl (fun h15 => ?_) (fun h15 => ?_) | refine T.cond rfl (fun h15 => ?_) (fun h15 => ?_)
 ·
  refine T.seq fun K4 hK4 => ?_
  refine T.region (l := [0, 1, 2]) rfl ?_
  refine RN.a rfl ?_
  refine RN.a rfl ?_
  refine RN.a rfl ?_
  refine RN.nil ?_
  refine hK4 _ _ ?_
  refine T.ret ?_
  refine Post.seq_r ?_
  refine bodyQ_ret [vec 40 1 (.slice none 0 0) 0 ([]), A] (RetRun.tmp (RetRun.tmp (RetRun.tmp RetRun.nil))) ⟨.slice none 0 0, [], 0, 2, rfl, rfl, .inl ⟨.inl (by omega), rfl, rfl, rfl⟩, rfl⟩ Ent.vec_nil'
 ·
  refine T.skip ?_
  refine hK2 _ _ ?_
  refine T.seq fun K5 hK5 => ?_
  refine T.region (l := [0, 1, 2]) rfl ?_
  refine RN.m rfl ?_
  refine RN.C [0] rfl rfl rfl rfl (c_call rfl rfl) (Lines_spec A hB t (by omega)) rfl ?_
  rintro _ _ ⟨b17, cap17, rest17, rfl, rfl⟩
  refine RN.a rfl ?_
  refine RN.nil ?_
  refine hK5 _ _ ?_
  refine T.seq fun K6 hK6 => ?_
  refine T.seq fun K7 hK7 => ?_
  refine T.region (l := [0, 1, 2]) rfl ?_
  refine RN.m rfl ?_
  refine RN.p rfl (p_len rfl Tryd.underlying26 rfl) ?_
  refine RN.p rfl (p_gtr rfl rfl rfl) ?_
  refine RN.nil ?_
  refine hK7 _ _ ?_
  first | refine T.cond_dec rfl (fun h20 => ?_) (fun h20 => ?_) | refine T.cond rfl (fun h20 => ?_) (fun h20 => ?_)
  ·
   refine T.seq fun K8 hK8 => ?_
   refine T.region (l := [0, 1, 2]) rfl ?_
   refine RN.a rfl ?_
   refine RN.a rfl ?_
   refine RN.a rfl ?_
   refine RN.nil ?_
   refine hK8 _ _ ?_
   refine T.ret ?_
   refine Post.seq_r ?_
   refine bodyQ_ret [vec 40 1 (.slice none 0 0) 0 ([]), A] (RetRun.tmp (RetRun.tmp (RetRun.tmp RetRun.nil))) ⟨.slice none 0 0, [], 0, 2, rfl, rfl, .inl ⟨.inr (by omega), rfl, rfl, rfl⟩, rfl⟩ ((Ent.pull_drop (is := [1, 1]) rfl).trans Ent.vec_nil')
  ·
   have hlim : ¬ (16384 < t.length ∨ 1000 < (linesF t).length) := by omega
   refine T.skip ?_
   refine hK6 _ _ ?_
   refine T.seq fun K9 hK9 => ?_
   refine T.region (l := [0]) rfl ?_
   refine RN.a rfl ?_
   refine RN.nil ?_
   refine hK9 _ _ ?_
   refine T.seq fun K10 hK10 => ?_
   refine T.seq fun K11 hK11 => ?_
   refine T.region (l := [0, 1, 2]) rfl ?_
   refine RN.m rfl ?_
   refine RN.p rfl (p_len rfl Tryd.underlying26 rfl) ?_
   refine RN.m rfl ?_
   refine RN.nil ?_
   refine hK11 _ _ ?_
   refine T.block ?_
   refine T.loop (G := Nat × List Cm × Value) (fun ⟨i, acc, v6⟩ => i ≤ (linesF t).length ∧ acc.length ≤ i ∧ v6.oneCell' = true ∧ parsG 0 (linesF t) = mapR acc (parsG i ((linesF t).drop i))) (fun ⟨i, acc, v6⟩ => [(0, strV t), (6, v6), (21, slc b17 0 (linesF t).length cap17), (22, intV (linesF t).length), (23, intV i)]) (fun ⟨i, acc, v6⟩ => [vec 40 1 v6 acc.length (acc.map cmV), row b17 9 ((linesF t).map strV ++ rest17), A, Fr]) (fun ⟨i, acc, v6⟩ => (linesF t).length - i) (0, [], .slice none 0 0) ⟨Nat.zero_le _, Nat.le_refl _, rfl, (mapR_nil _).symm⟩ (LiveIs.cons rfl (LiveIs.cons rfl (LiveIs.cons rfl (LiveIs.cons rfl (LiveIs.cons rfl LiveIs.nil))))) Ent.vec_nil' ?_
   rintro ⟨i, acc, v6⟩ e12 ⟨hil, hacc, hv6, hnum⟩
   dsimp only
   refine T.seq fun K13 hK13 => ?_
   refine T.region (l := [0]) rfl ?_
   refine RN.p rfl (p_lss rfl rfl rfl) ?_
   refine RN.nil ?_
   refine hK13 _ _ ?_
   refine T.seq fun K14 hK14 => ?_
   first | refine T.cond_dec rfl (fun h24 => ?_) (fun h24 => ?_) | refine T.cond rfl (fun h24 => ?_) (fun h24 => ?_)
   ·
    have hlt : i < (linesF t).length := by omega
    obtain ⟨hll, -⟩ := linesF_mem (List.getElem_mem hlt)
    refine T.skip ?_
    refine hK14 _ _ ?_
    refine T.seq fun K15 hK15 => ?_
    refine T.block ?_
    refine T.seq fun K16 hK16 => ?_
    refine T.region (l := [0, 1, 2, 3, 4]) rfl ?_
    refine RN.m rfl ?_
    refine RN.p rfl (by first | exact (p_indexAddr1N rfl Tryd.underlying26 ts_9 rfl rfl (by omega)) | exact (p_indexAddr1 rfl Tryd.underlying26 ts_9 rfl rfl (by omega))) ?_
    refine RN.u rfl (q_load (v := strV (linesF t)[i]) rfl sc_9 rfl (i := 1) rfl (str_row hlt)) ?_
    refine RN.a rfl ?_
    refine RN.a rfl ?_
    refine RN.nil ?_
    refine hK16 _ _ ?_
    refine T.seq fun K17 hK17 => ?_
    refine T.seq fun K18 hK18 => ?_
    refine T.region (l := [0, 1, 2, 3, 4, 5, 6]) rfl ?_
    refine RN.m rfl ?_
    refine RN.C [] rfl rfl rfl rfl (c_call rfl rfl) (Word_f (linesF t)[i] (by omega)) rfl ?_
    rintro _ _ ⟨rfl, rfl⟩
    refine RN.m rfl ?_
    refine RN.p rfl (p_extract rfl rfl rfl) ?_
    refine RN.p rfl (p_extract rfl rfl rfl) ?_
    refine RN.a rfl ?_
    refine RN.a rfl ?_
    refine RN.nil ?_
    refine hK18 _ _ ?_
    refine T.seq fun K19 hK19 => ?_
    refine T.region (l := [0, 1, 2, 3, 4, 5, 6]) rfl ?_
    refine RN.m rfl ?_
    refine RN.p rfl (p_seql rfl rfl rfl) ?_
    refine RN.m rfl ?_
    first | refine RN.split_dec 35 rfl (fun h35 => ?_) (fun h35 => ?_) | refine RN.split 35 rfl (fun h35 => ?_) (fun h35 => ?_)
    ·
     have hsk : SkipQ (linesF t)[i] := .inl h35
     refine RN.no0 rfl ?_
     refine RN.no0 rfl ?_
     refine RN.no0 rfl ?_
     refine RN.pt rfl ?_
     refine RN.nil ?_
     refine hK19 _ _ ?_
     refine T.cond_t rfl ?_
     refine T.exit ?_
     refine Post.seq_x ?_
     refine Post.block_hit ?_
     refine hK15 _ _ ?_
     refine T.region (l := [0, 1]) rfl ?_
     refine RN.p rfl (by first | exact (p_addN (b := 1) rfl rfl rfl (by omega)) | exact (p_add rfl rfl rfl (by omega))) ?_
     refine RN.m rfl ?_
     refine RN.nil ?_
     refine ⟨(i + 1, acc, v6), ⟨hlt, by show acc.length ≤ i + 1; omega, hv6, pars_skip hlt hnum hsk⟩, (by show _ - (i + 1) < _ - i; omega), (LiveIs.cons rfl (LiveIs.cons rfl (LiveIs.cons rfl (LiveIs.cons rfl (LiveIs.cons rfl LiveIs.nil))))), (Ent.refl _)⟩
    ·
     have hwp : 0 < (wordF (linesF t)[i]).1.length := List.length_pos_iff.2 h35
     refine RN.m rfl ?_
     refine RN.p rfl (by first | exact (p_indexN_s (n := 0) rfl Tryd.underlying9 rfl rfl (List.getElem?_eq_getElem hwp)) | exact (p_index_s rfl Tryd.underlying9 rfl rfl (List.getElem?_eq_getElem hwp))) ?_
     refine RN.p rfl (p_eql rfl rfl rfl) ?_
     refine RN.pf rfl ?_
     refine RN.nil ?_
     refine hK19 _ _ ?_
     first | refine T.cond_dec rfl (fun h39 => ?_) (fun h39 => ?_) | refine T.cond rfl (fun h39 => ?_) (fun h39 => ?_)
     ·
      have hsk : SkipQ (linesF t)[i] := by first | exact .inl h35 | exact .inr (by rw [at0_get hwp]; omega)
      refine T.exit ?_
      refine Post.seq_x ?_
      refine Post.block_hit ?_
      refine hK15 _ _ ?_
      refine T.region (l := [0, 1]) rfl ?_
      refine RN.p rfl (by first | exact (p_addN (b := 1) rfl rfl rfl (by omega)) | exact (p_add rfl rfl rfl (by omega))) ?_
      refine RN.m rfl ?_
      refine RN.nil ?_
      refine ⟨(i + 1, acc, v6), ⟨hlt, by show acc.length ≤ i + 1; omega, hv6, pars_skip hlt hnum hsk⟩, (by show _ - (i + 1) < _ - i; omega), (LiveIs.cons rfl (LiveIs.cons rfl (LiveIs.cons rfl (LiveIs.cons rfl (LiveIs.cons rfl LiveIs.nil))))), (Ent.refl _)⟩
     ·
      have hsk : ¬ SkipQ (linesF t)[i] := fun g => g.elim h35 (fun g => by rw [at0_get hwp] at g; omega)
      refine T.skip ?_
      refine hK17 _ _ ?_
      refine T.seq fun K20 hK20 => ?_
      refine T.region (l := [0, 1, 2, 3, 4, 5, 6]) rfl ?_
      refine RN.m rfl ?_
      refine RN.C [2] rfl rfl rfl rfl (c_call rfl rfl) (Command_spec A hA (linesF t)[i] (by omega)) rfl ?_
      rintro _ _ ⟨cv, ok, rfl, hone, hx, rfl⟩
      refine RN.m rfl ?_
      refine RN.p rfl (p_extract rfl rfl rfl) ?_
      refine RN.p rfl (p_extract rfl rfl rfl) ?_
      refine RN.a rfl ?_
      refine RN.a rfl ?_
      refine RN.nil ?_
      refine hK20 _ _ ?_
      refine T.seq fun K21 hK21 => ?_
      refine T.seq fun K22 hK22 => ?_
      refine T.region (l := [0, 1]) rfl ?_
      refine RN.m rfl ?_
      refine RN.p rfl (by first | exact (p_not_dec rfl rfl) | exact (p_not rfl rfl)) ?_
      refine RN.nil ?_
      refine hK22 _ _ ?_
      first | refine T.cond_dec rfl (fun h46 => ?_) (fun h46 => ?_) | refine T.cond rfl (fun h46 => ?_) (fun h46 => ?_)
      ·
       have hno : lineF (linesF t)[i] = none := by
        rcases hx with ⟨h, _⟩ | ⟨_, h⟩
        · rw [h] at h46; simp at h46
        · exact h
       refine T.seq fun K23 hK23 => ?_
       refine T.region (l := [0, 1, 2, 3, 4]) rfl ?_
       refine RN.m rfl ?_
       refine RN.p rfl (by first | exact (p_addN (b := 1) rfl rfl rfl (by omega)) | exact (p_add rfl rfl rfl (by omega))) ?_
       refine RN.a rfl ?_
       refine RN.a rfl ?_
       refine RN.a rfl ?_
       refine RN.nil ?_
       refine hK23 _ _ ?_
       refine T.ret ?_
       refine Post.seq_r ?_
       refine Post.block_r ?_
       refine Post.seq_r ?_
       refine Post.seq_r ?_
       refine Post.block_r ?_
       refine Post.seq_r ?_
       refine bodyQ_ret [vec 40 1 (.slice none 0 0) 0 ([]), A] (RetRun.tmp (RetRun.tmp (RetRun.tmp RetRun.nil))) ⟨.slice none 0 0, [], i + 1, 3, rfl, rfl, .inr ⟨hlim, .inl ⟨pars_bad hlt hnum hsk hno, rfl, rfl⟩⟩, rfl⟩ ((Ent.pull_drop (is := [0, 2]) rfl).trans Ent.vec_nil')
      ·
       obtain ⟨c, hc, rfl⟩ : ∃ c, lineF (linesF t)[i] = some c ∧ cv = cmV c := by
        rcases hx with ⟨_, h⟩ | ⟨h, _⟩
        · exact h
        · rw [h] at h46; simp at h46
       refine T.skip ?_
       refine hK21 _ _ ?_
       refine T.region (l := [0, 1, 2, 3, 4]) rfl ?_
       refine RN.m rfl ?_
       refine RN.m rfl ?_
       refine RN.E rfl rfl rfl rfl (e_buildSlice1 (v := cmV c) rfl Tryd.underlying28 ti_40 rfl rfl hone) ?_
       rintro _ _ ⟨b51, rfl, rfl⟩
       refine RN.E rfl rfl rfl rfl (e_append rfl Tryd.underlying28 ni_28 ti_40 rfl rfl (i := 2) rfl (src_full (i := 0) rfl rfl) (one_one hone) (by omega)) ?_
       rintro v52 _ ⟨hv52, rfl⟩
       refine RN.a rfl ?_
       refine RN.nil ?_
       refine hK15 _ _ ?_
       refine T.region (l := [0, 1]) rfl ?_
       refine RN.p rfl (by first | exact (p_addN (b := 1) rfl rfl rfl (by omega)) | exact (p_add rfl rfl rfl (by omega))) ?_
       refine RN.m rfl ?_
       refine RN.nil ?_
       refine ⟨(i + 1, acc ++ [c], v52), ⟨hlt, by rw [List.length_append]; show acc.length + 1 ≤ i + 1; omega, hv52, pars_good hlt hnum hsk hc⟩, (by show _ - (i + 1) < _ - i; omega), (LiveIs.cons rfl (LiveIs.cons rfl (LiveIs.cons rfl (LiveIs.cons rfl (LiveIs.cons rfl LiveIs.nil))))), ((Ent.pull_drop (is := [2, 2, 1, 1]) rfl).trans (Ent.cons (vec_eq (by rw [List.length_append]; rfl) (by rw [List.map_append]; rfl)) (Ent.refl _)))⟩
   ·
    refine T.exit ?_
    refine Post.seq_x ?_
    refine Post.seq_x ?_
    refine Post.block_hit ?_
    refine hK10 _ _ ?_
    refine T.seq fun K24 hK24 => ?_
    refine T.region (l := [0, 1, 2, 3]) rfl ?_
    refine RN.m rfl ?_
    refine RN.a rfl ?_
    refine RN.a rfl ?_
    refine RN.a rfl ?_
    refine RN.nil ?_
    refine hK24 _ _ ?_
    refine T.ret ?_
    refine bodyQ_ret [vec 40 1 v6 acc.length (acc.map cmV), A] (RetRun.tmp (RetRun.tmp (RetRun.tmp RetRun.nil))) ⟨v6, acc, 0, 0, rfl, hv6, .inr ⟨hlim, .inr ⟨pars_end (by omega) hnum, rfl, rfl⟩⟩, rfl⟩ (Ent.pull_drop (is := [0, 1, 1]) rfl)

end Go.Proofs.YtokbjejbgbdkoaaDoor
