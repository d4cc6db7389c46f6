/-
 The reference of scripts, whole texts: walked.
-/
import Derived.Test.YtokbjejbgbdkoaaGreatDoorGYrD2
import Derived.Test.YtokbjejbgbdkoaaGreatDoorGModelC
set_option linter.unusedVariables false
set_option linter.unusedSimpArgs false
namespace Go.Proofs.YtokbjejbgbdkoaaGreatDoor
open Go Go.Sl Go.Proofs
set_option maxRecDepth 20000
open Go.Mo Go.Proofs Go.Shelf Go.RowKit
theorem cuts_one : ∀ {a : List UInt8}, NoNl a → cutsF a = [a]
 | [], _ => rfl
 | c :: a, h => by
  have ih := cuts_one (a := a) (fun d hd => h d (List.mem_cons_of_mem _ hd))
  unfold cutsF
  rw [if_neg (h c (List.mem_cons_self ..)), ih]
theorem cuts_nl : ∀ {a r : List UInt8}, NoNl a → cutsF (a ++ 10 :: r) = a :: cutsF r
 | [], r, _ => by
  show cutsF (10 :: r) = _
  conv => lhs; unfold cutsF
  rw [if_pos rfl]
 | c :: a, r, h => by
  have ih := cuts_nl (a := a) (r := r) (fun d hd => h d (List.mem_cons_of_mem _ hd))
  show cutsF (c :: (a ++ 10 :: r)) = _
  conv => lhs; unfold cutsF
  rw [if_neg (h c (List.mem_cons_self ..)), ih]
/-- No line ends between these places. -/
def Flat (l : List UInt8) (f i : Nat) : Prop := ∀ k (hk : k < l.length), f ≤ k → k < i → l[k] ≠ 10
theorem flat_take {l : List UInt8} {f i : Nat} (h : Flat l f i) : NoNl ((l.drop f).take (i - f)) := fun c hc => by
 obtain ⟨k, hk, rfl⟩ := List.getElem_of_mem hc
 rw [List.length_take, List.length_drop] at hk
 rw [List.getElem_take, List.getElem_drop]
 exact h _ (by omega) (by omega) (by omega)
theorem cuts_step {l : List UInt8} {f i : Nat} {acc : List (List UInt8)} (hf : f ≤ i) (hi : i < l.length) (h10 : l[i] = 10) (hfl : Flat l f i) (h : cutsF l = acc ++ cutsF (l.drop f)) : cutsF l = (acc ++ [(l.take i).drop f]) ++ cutsF (l.drop (i + 1)) := by
 have e : l.drop f = (l.drop f).take (i - f) ++ 10 :: l.drop (i + 1) := by
  conv => lhs; rw [← List.take_append_drop (i - f) (l.drop f)]
  congr 1
  rw [List.drop_drop, show f + (i - f) = i from by omega, List.drop_eq_getElem_cons hi, h10]
 rw [h]
 conv => lhs; rw [e, cuts_nl (flat_take hfl)]
 rw [List.drop_take]
 simp
theorem lines_end {l : List UInt8} {f : Nat} {acc : List (List UInt8)} (hfl : Flat l f l.length) (h : cutsF l = acc ++ cutsF (l.drop f)) : (f < l.length → linesF l = acc ++ [l.drop f]) ∧ (l.length ≤ f → linesF l = acc) := by
 have hn : NoNl (l.drop f) := by
  have := flat_take hfl
  rwa [List.take_of_length_le (by rw [List.length_drop]; omega)] at this
 rw [cuts_one hn] at h
 have hlast : (cutsF l).getLast (cutsF_ne l) = l.drop f := by
  have : ∀ (x : List (List UInt8)) (hx : x ≠ []), x = acc ++ [l.drop f] → x.getLast hx = l.drop f := by
   rintro x hx rfl
   simp
  exact this _ _ h
 constructor
 ·
  intro hf
  unfold linesF
  rw [hlast, if_neg (by intro g; have := congrArg List.length g; rw [List.length_drop] at this; simp only [List.length_nil] at this; omega), h]
 ·
  intro hf
  have h0 : l.drop f = [] := List.drop_eq_nil_of_le hf
  unfold linesF
  rw [hlast, if_pos h0, h]
  simp
theorem flat_rc {acc : List Cm} {c : Cm} : ((acc ++ [c]).map rcC).flatten = (acc.map rcC).flatten ++ rcC c := by simp
theorem rc_len (acc : List Cm) : ((acc.map rcC).flatten).length = acc.length * 4 := by
 induction acc with
 | nil => rfl
 | cons c r ih => rw [List.map_cons, List.flatten_cons, List.length_append, ih, List.length_cons]; show 4 + _ = _; omega

theorem RLines_spec (l : List UInt8) (hl : l.length ≤ 100000000) : Ctr Tryz.prog 15 [strV l] [] (fun w Ps => ∃ v, w = v ∧ v.oneCell' = true ∧ Ps = [vec 9 1 v (linesF l).length ((linesF l).map strV)]) := by
 refine Ctr.of_body Tryz.func15 rfl (by kernel_rfl) Tryz.ntmps15 rfl rfl (fun Fr => ?_)
 refine T.seq fun K1 hK1 => ?_
 refine T.region (l := [0]) rfl ?_
 refine RN.a rfl ?_
 refine RN.nil ?_
 refine hK1 _ _ ?_
 refine T.seq fun K2 hK2 => ?_
 refine T.region (l := [0, 1]) rfl ?_
 refine RN.E rfl rfl rfl rfl (by first | exact (e_makeSliceN (n := 0) (c := 0) rfl Tryz.underlying60 ti_9 rfl rfl rfl (by decide)) | exact (e_makeSlice rfl Tryz.underlying60 ti_9 rfl rfl rfl (by decide))) ?_
 rintro _ _ ⟨b6, rfl, rfl⟩
 refine RN.a rfl ?_
 refine RN.nil ?_
 refine hK2 _ _ ?_
 refine T.seq fun K3 hK3 => ?_
 refine T.region (l := [0]) rfl ?_
 refine RN.a rfl ?_
 refine RN.nil ?_
 refine hK3 _ _ ?_
 refine T.seq fun K4 hK4 => ?_
 refine T.seq fun K5 hK5 => ?_
 refine T.region (l := [0]) rfl ?_
 refine RN.a rfl ?_
 refine RN.nil ?_
 refine hK5 _ _ ?_
 refine T.block ?_
 refine T.loop (G := Nat × Nat × List (List UInt8) × Value) (fun ⟨i, f, acc, v3⟩ => f ≤ i ∧ i ≤ l.length ∧ acc.length ≤ f ∧ Flat l f i ∧ v3.oneCell' = true ∧ cutsF l = acc ++ cutsF (l.drop f)) (fun ⟨i, f, acc, v3⟩ => [(0, strV l), (3, v3), (4, intV f), (5, intV i)]) (fun ⟨i, f, acc, v3⟩ => [vec 9 1 v3 acc.length (acc.map strV), Fr]) (fun ⟨i, f, acc, v3⟩ => l.length - i) (0, 0, [], slc b6 0 0 0) ⟨Nat.le_refl _, Nat.zero_le _, Nat.le_refl _, (fun k _ _ h => absurd h (Nat.not_lt_zero _)), rfl, rfl⟩ (LiveIs.cons rfl (LiveIs.cons rfl (LiveIs.cons rfl (LiveIs.cons rfl LiveIs.nil)))) (Ent.cons (vec_of_row (xs := []) (rest := []) rfl (Nat.le_refl _) (by decide) rfl) (Ent.refl _)) ?_
 rintro ⟨i, f, acc, v3⟩ e6 ⟨hfi, hil, hacc, hfl, hv3, hcu⟩
 dsimp only
 refine T.seq fun K7 hK7 => ?_
 refine T.seq fun K8 hK8 => ?_
 refine T.region (l := [0, 1, 2, 3]) rfl ?_
 refine RN.m rfl ?_
 refine RN.m rfl ?_
 refine RN.p rfl (p_len_s rfl Tryz.underlying9 rfl) ?_
 refine RN.p rfl (p_lss rfl rfl rfl) ?_
 refine RN.nil ?_
 refine hK8 _ _ ?_
 first | refine T.cond_dec rfl (fun h10 => ?_) (fun h10 => ?_) | refine T.cond rfl (fun h10 => ?_) (fun h10 => ?_)
 ·
  have hlt : i < l.length := by omega
  refine T.skip ?_
  refine hK7 _ _ ?_
  refine T.seq fun K9 hK9 => ?_
  refine T.block ?_
  refine T.seq fun K10 hK10 => ?_
  refine T.region (l := [0, 1, 2, 3]) rfl ?_
  refine RN.m rfl ?_
  refine RN.m rfl ?_
  refine RN.p rfl (by first | exact (p_indexN_s rfl Tryz.underlying9 rfl rfl (List.getElem?_eq_getElem hlt)) | exact (p_index_s rfl Tryz.underlying9 rfl rfl (List.getElem?_eq_getElem hlt))) ?_
  refine RN.p rfl (p_eql rfl rfl rfl) ?_
  refine RN.nil ?_
  refine hK10 _ _ ?_
  first | refine T.cond_dec rfl (fun h16 => ?_) (fun h16 => ?_) | refine T.cond rfl (fun h16 => ?_) (fun h16 => ?_)
  ·
   have h10 : l[i] = 10 := u8_of (n := 10) (by rw [h16]; rfl)
   refine T.seq fun K11 hK11 => ?_
   refine T.region (l := [0, 1, 2, 3, 4, 5, 6, 7]) rfl ?_
   refine RN.m rfl ?_
   refine RN.m rfl ?_
   refine RN.m rfl ?_
   refine RN.m rfl ?_
   refine RN.p rfl (by first | exact (p_sliceN_s rfl Tryz.underlying9 rfl rfl rfl (by omega)) | exact (p_slice_s rfl Tryz.underlying9 rfl rfl rfl (by omega))) ?_
   refine RN.E rfl rfl rfl rfl (e_buildSlice1 rfl Tryz.underlying60 ti_9 rfl (by conv => lhs; whnf) rfl) ?_
   rintro _ _ ⟨b22, rfl, rfl⟩
   refine RN.E rfl rfl rfl rfl (e_append rfl Tryz.underlying60 ni_60 ti_9 rfl rfl (i := 1) rfl (src_full (i := 0) rfl rfl) (one_one rfl) (by omega)) ?_
   rintro v23 _ ⟨hv23, rfl⟩
   refine RN.a rfl ?_
   refine RN.nil ?_
   refine hK11 _ _ ?_
   refine T.region (l := [0, 1, 2]) rfl ?_
   refine RN.m rfl ?_
   refine RN.p rfl (by first | exact (p_addN (b := 1) rfl rfl rfl (by omega)) | exact (p_add rfl rfl rfl (by omega))) ?_
   refine RN.a rfl ?_
   refine RN.nil ?_
   refine hK9 _ _ ?_
   refine T.region (l := [0, 1, 2]) rfl ?_
   refine RN.m rfl ?_
   refine RN.p rfl (by first | exact (p_addN (b := 1) rfl rfl rfl (by omega)) | exact (p_add rfl rfl rfl (by omega))) ?_
   refine RN.a rfl ?_
   refine RN.nil ?_
   refine ⟨(i + 1, i + 1, acc ++ [(l.take i).drop f], v23), ⟨Nat.le_refl _, hlt, (by rw [List.length_append]; show acc.length + 1 ≤ i + 1; omega), (fun k _ (h1 : i + 1 ≤ k) (h2 : k < i + 1) => by omega), hv23, cuts_step hfi hlt h10 hfl hcu⟩, (by show _ - (i + 1) < _ - i; omega), (LiveIs.cons rfl (LiveIs.cons rfl (LiveIs.cons rfl (LiveIs.cons rfl LiveIs.nil)))), ((Ent.pull_drop (is := [1, 1]) rfl).trans (Ent.cons (vec_eq (by rw [List.length_append]; rfl) (by rw [List.map_append]; rfl)) (Ent.refl _)))⟩
  ·
   refine T.skip ?_
   refine hK9 _ _ ?_
   refine T.region (l := [0, 1, 2]) rfl ?_
   refine RN.m rfl ?_
   refine RN.p rfl (by first | exact (p_addN (b := 1) rfl rfl rfl (by omega)) | exact (p_add rfl rfl rfl (by omega))) ?_
   refine RN.a rfl ?_
   refine RN.nil ?_
   refine ⟨(i + 1, f, acc, v3), ⟨by show f ≤ i + 1; omega, hlt, hacc, (fun k hk h1 h2 => by
    by_cases e : k = i
    · subst e; exact fun g => h16 (by rw [g]; rfl)
    · exact hfl k hk h1 (by omega)), hv3, hcu⟩, (by show _ - (i + 1) < _ - i; omega), (LiveIs.cons rfl (LiveIs.cons rfl (LiveIs.cons rfl (LiveIs.cons rfl LiveIs.nil)))), (Ent.refl _)⟩
 ·
  have hie : i = l.length := by omega
  have hend := lines_end (by rw [hie] at hfl; exact hfl) hcu
  refine T.exit ?_
  refine Post.seq_x ?_
  refine Post.seq_x ?_
  refine Post.block_hit ?_
  refine hK4 _ _ ?_
  refine T.seq fun K12 hK12 => ?_
  refine T.seq fun K13 hK13 => ?_
  refine T.region (l := [0, 1, 2, 3]) rfl ?_
  refine RN.m rfl ?_
  refine RN.m rfl ?_
  refine RN.p rfl (p_len_s rfl Tryz.underlying9 rfl) ?_
  refine RN.p rfl (p_lss rfl rfl rfl) ?_
  refine RN.nil ?_
  refine hK13 _ _ ?_
  first | refine T.cond_dec rfl (fun h29 => ?_) (fun h29 => ?_) | refine T.cond rfl (fun h29 => ?_) (fun h29 => ?_)
  ·
   refine T.region (l := [0, 1, 2, 3, 4, 5, 6]) rfl ?_
   refine RN.m rfl ?_
   refine RN.m rfl ?_
   refine RN.m rfl ?_
   refine RN.p rfl (by first | exact (p_slice_s_lo rfl Tryz.underlying9 rfl rfl (by omega)) | exact (p_sliceN_s rfl Tryz.underlying9 rfl rfl rfl (by omega)) | exact (p_slice_s rfl Tryz.underlying9 rfl rfl rfl (by omega))) ?_
   refine RN.E rfl rfl rfl rfl (e_buildSlice1 rfl Tryz.underlying60 ti_9 rfl (by conv => lhs; whnf) rfl) ?_
   rintro _ _ ⟨b34, rfl, rfl⟩
   refine RN.E rfl rfl rfl rfl (e_append rfl Tryz.underlying60 ni_60 ti_9 rfl rfl (i := 1) rfl (src_full (i := 0) rfl rfl) (one_one rfl) (by omega)) ?_
   rintro v35 _ ⟨hv35, rfl⟩
   refine RN.a rfl ?_
   refine RN.nil ?_
   refine hK12 _ _ ?_
   refine T.seq fun K14 hK14 => ?_
   refine T.region (l := [0, 1]) rfl ?_
   refine RN.m rfl ?_
   refine RN.a rfl ?_
   refine RN.nil ?_
   refine hK14 _ _ ?_
   refine T.ret ?_
   have hle := hend.1 (by omega)
   refine bodyQ_ret [vec 9 1 v35 (linesF l).length ((linesF l).map strV)] (RetRun.tmp RetRun.nil) ⟨v35, rfl, hv35, rfl⟩ ((Ent.pull_drop (is := [1, 1]) rfl).trans (Ent.cons (vec_eq (by rw [hle, List.length_append]; rfl) (by rw [hle, List.map_append]; rfl)) (Ent.refl _)))
  ·
   refine T.skip ?_
   refine hK12 _ _ ?_
   refine T.seq fun K15 hK15 => ?_
   refine T.region (l := [0, 1]) rfl ?_
   refine RN.m rfl ?_
   refine RN.a rfl ?_
   refine RN.nil ?_
   refine hK15 _ _ ?_
   refine T.ret ?_
   have hle := hend.2 (by omega)
   refine bodyQ_ret [vec 9 1 v3 (linesF l).length ((linesF l).map strV)] (RetRun.tmp RetRun.nil) ⟨v3, rfl, hv3, rfl⟩ (Ent.cons (vec_eq (by rw [hle]) (by rw [hle])) (Ent.refl _))

theorem RParse_spec (t : List UInt8) (ht : t.length ≤ 100000000) : Ctr Tryz.prog 7 [strV t] [] (fun w Ps => ∃ v cs n e, w = .tuple #[v, intV n, intV e] ∧ v.oneCell' = true ∧ ParseQ t cs n e ∧ Ps = [vec 31 4 v cs.length ((cs.map rcC).flatten)]) := by
 refine Ctr.of_body Tryz.func7 rfl (by kernel_rfl) Tryz.ntmps7 rfl rfl (fun Fr => ?_)
 refine T.seq fun K1 hK1 => ?_
 refine T.region (l := [0, 1, 2]) rfl ?_
 refine RN.a rfl ?_
 refine RN.a rfl ?_
 refine RN.a rfl ?_
 refine RN.nil ?_
 refine hK1 _ _ ?_
 refine T.seq fun K2 hK2 => ?_
 refine T.region (l := [0, 1, 2]) rfl ?_
 refine RN.m rfl ?_
 refine RN.C [] rfl rfl rfl rfl (c_call rfl rfl) (RLines_spec t ht) rfl ?_
 rintro v5 _ ⟨_, rfl, hv5, rfl⟩
 refine RN.a rfl ?_
 refine RN.nil ?_
 refine hK2 _ _ ?_
 refine T.seq fun K3 hK3 => ?_
 refine T.seq fun K4 hK4 => ?_
 refine T.region (l := [0, 1, 2, 3, 4, 5, 6, 7]) rfl ?_
 refine RN.m rfl ?_
 refine RN.p rfl (p_len_s rfl Tryz.underlying9 rfl) ?_
 refine RN.p rfl (p_gtr rfl rfl rfl) ?_
 refine RN.m rfl ?_
 first | refine RN.split_dec 15 rfl (fun h15 => ?_) (fun h15 => ?_) | refine RN.split 15 rfl (fun h15 => ?_) (fun h15 => ?_)
 ·
  refine RN.no0 rfl ?_
  refine RN.no0 rfl ?_
  refine RN.no0 rfl ?_
  refine RN.pt rfl ?_
  refine RN.nil ?_
  refine hK4 _ _ ?_
  refine T.cond_t rfl ?_
  refine T.seq fun K5 hK5 => ?_
  refine T.region (l := [0, 1, 2]) rfl ?_
  refine RN.a rfl ?_
  refine RN.a rfl ?_
  refine RN.a rfl ?_
  refine RN.nil ?_
  refine hK5 _ _ ?_
  refine T.ret ?_
  refine Post.seq_r ?_
  refine bodyQ_ret [vec 31 4 (.slice none 0 0) 0 ([])] (RetRun.tmp (RetRun.tmp (RetRun.tmp RetRun.nil))) ⟨.slice none 0 0, [], 0, 2, rfl, rfl, .inl ⟨.inl (by omega), rfl, rfl, rfl⟩, rfl⟩ (((Ent.pull_drop (is := [1]) rfl)).trans Ent.vec_nil')
 ·
  refine RN.m rfl ?_
  refine RN.u rfl (q_len_vec rfl Tryz.underlying60 rfl (i := 0) rfl) ?_
  refine RN.p rfl (p_gtr rfl rfl rfl) ?_
  refine RN.pf rfl ?_
  refine RN.nil ?_
  refine hK4 _ _ ?_
  first | refine T.cond_dec rfl (fun h19 => ?_) (fun h19 => ?_) | refine T.cond rfl (fun h19 => ?_) (fun h19 => ?_)
  ·
   refine T.seq fun K6 hK6 => ?_
   refine T.region (l := [0, 1, 2]) rfl ?_
   refine RN.a rfl ?_
   refine RN.a rfl ?_
   refine RN.a rfl ?_
   refine RN.nil ?_
   refine hK6 _ _ ?_
   refine T.ret ?_
   refine Post.seq_r ?_
   refine bodyQ_ret [vec 31 4 (.slice none 0 0) 0 ([])] (RetRun.tmp (RetRun.tmp (RetRun.tmp RetRun.nil))) ⟨.slice none 0 0, [], 0, 2, rfl, rfl, .inl ⟨.inr (by omega), rfl, rfl, rfl⟩, rfl⟩ (((Ent.pull_drop (is := [1]) rfl)).trans Ent.vec_nil')
  ·
   have hlim : ¬ (16384 < t.length ∨ 1000 < (linesF t).length) := by omega
   refine T.skip ?_
   refine hK3 _ _ ?_
   refine T.seq fun K7 hK7 => ?_
   refine T.region (l := [0, 1]) rfl ?_
   refine RN.E rfl rfl rfl rfl (by first | exact (e_makeSliceN (n := 0) (c := 0) rfl Tryz.underlying27 ti_31 rfl rfl rfl (by decide)) | exact (e_makeSlice rfl Tryz.underlying27 ti_31 rfl rfl rfl (by decide))) ?_
   rintro _ _ ⟨b20, rfl, rfl⟩
   refine RN.a rfl ?_
   refine RN.nil ?_
   refine hK7 _ _ ?_
   refine T.seq fun K8 hK8 => ?_
   refine T.seq fun K9 hK9 => ?_
   refine T.region (l := [0]) rfl ?_
   refine RN.a rfl ?_
   refine RN.nil ?_
   refine hK9 _ _ ?_
   refine T.block ?_
   refine T.loop (G := Nat × List Cm × Value) (fun ⟨i, acc, v6⟩ => i ≤ (linesF t).length ∧ acc.length ≤ i ∧ v6.oneCell' = true ∧ parsG 0 (linesF t) = mapR acc (parsG i ((linesF t).drop i))) (fun ⟨i, acc, v6⟩ => [(0, strV t), (5, v5), (6, v6), (7, intV i)]) (fun ⟨i, acc, v6⟩ => [vec 31 4 v6 acc.length ((acc.map rcC).flatten), vec 9 1 v5 (linesF t).length ((linesF t).map strV), Fr]) (fun ⟨i, acc, v6⟩ => (linesF t).length - i) (0, [], slc b20 0 0 0) ⟨Nat.zero_le _, Nat.le_refl _, rfl, (mapR_nil _).symm⟩ (LiveIs.cons rfl (LiveIs.cons rfl (LiveIs.cons rfl (LiveIs.cons rfl LiveIs.nil)))) (Ent.cons (vec_of_row (xs := []) (rest := []) rfl (Nat.le_refl _) (by decide) rfl) (Ent.refl _)) ?_
   rintro ⟨i, acc, v6⟩ e10 ⟨hil, hacc, hv6, hnum⟩
   dsimp only
   refine T.seq fun K11 hK11 => ?_
   refine T.seq fun K12 hK12 => ?_
   refine T.region (l := [0, 1, 2, 3]) rfl ?_
   refine RN.m rfl ?_
   refine RN.m rfl ?_
   refine RN.u rfl (q_len_vec rfl Tryz.underlying60 rfl (i := 1) rfl) ?_
   refine RN.p rfl (p_lss rfl rfl rfl) ?_
   refine RN.nil ?_
   refine hK12 _ _ ?_
   first | refine T.cond_dec rfl (fun h24 => ?_) (fun h24 => ?_) | refine T.cond rfl (fun h24 => ?_) (fun h24 => ?_)
   ·
    have hlt : i < (linesF t).length := by omega
    obtain ⟨hll, hnl⟩ := linesF_mem (List.getElem_mem hlt)
    refine T.openVec 1 rfl (by omega) ?_
    rintro bL capL restL rfl c1 c2 c3
    refine T.skip ?_
    refine hK11 _ _ ?_
    refine T.seq fun K13 hK13 => ?_
    refine T.block ?_
    refine T.seq fun K14 hK14 => ?_
    refine T.seq fun K15 hK15 => ?_
    refine T.region (l := [0, 1, 2, 3, 4]) rfl ?_
    refine RN.m rfl ?_
    refine RN.m rfl ?_
    refine RN.p rfl (by first | exact (p_indexAddr1N rfl Tryz.underlying60 ts_9 rfl rfl (by omega)) | exact (p_indexAddr1 rfl Tryz.underlying60 ts_9 rfl rfl (by omega))) ?_
    refine RN.u rfl (q_load (v := strV (linesF t)[i]) rfl sc_9 rfl (i := 1) rfl (str_row hlt)) ?_
    refine RN.C [] rfl rfl rfl rfl (c_call rfl rfl) (Skip_spec (linesF t)[i] (by omega)) rfl ?_
    rintro _ _ ⟨rfl, rfl⟩
    refine RN.nil ?_
    refine hK15 _ _ ?_
    first | refine T.cond_dec rfl (fun h31 => ?_) (fun h31 => ?_) | refine T.cond rfl (fun h31 => ?_) (fun h31 => ?_)
    ·
     refine T.exit ?_
     refine Post.seq_x ?_
     refine Post.block_hit ?_
     refine hK13 _ _ ?_
     refine T.region (l := [0, 1, 2]) rfl ?_
     refine RN.m rfl ?_
     refine RN.p rfl (by first | exact (p_addN (b := 1) rfl rfl rfl (by omega)) | exact (p_add rfl rfl rfl (by omega))) ?_
     refine RN.a rfl ?_
     refine RN.nil ?_
     refine ⟨(i + 1, acc, v6), ⟨hlt, by show acc.length ≤ i + 1; omega, hv6, pars_skip hlt hnum h31⟩, (by show _ - (i + 1) < _ - i; omega), (LiveIs.cons rfl (LiveIs.cons rfl (LiveIs.cons rfl (LiveIs.cons rfl LiveIs.nil)))), (Ent.cons (Ent.refl _) (Ent.cons (vec_of_row (by simp) c1 c2 c3) (Ent.refl _)))⟩
    ·
     have hsk : ¬ SkipQ (linesF t)[i] := h31
     refine T.skip ?_
     refine hK14 _ _ ?_
     refine T.seq fun K16 hK16 => ?_
     refine T.region (l := [0, 1, 2, 3, 4, 5, 6, 7, 8, 9, 10]) rfl ?_
     refine RN.m rfl ?_
     refine RN.m rfl ?_
     refine RN.p rfl (by first | exact (p_indexAddr1N rfl Tryz.underlying60 ts_9 rfl rfl (by omega)) | exact (p_indexAddr1 rfl Tryz.underlying60 ts_9 rfl rfl (by omega))) ?_
     refine RN.u rfl (q_load (v := strV (linesF t)[i]) rfl sc_9 rfl (i := 1) rfl (str_row hlt)) ?_
     refine RN.C [] rfl rfl rfl rfl (c_call rfl rfl) (RLine_spec (linesF t)[i] (by omega) hnl) rfl ?_
     rintro _ _ ⟨cs', ok, rfl, hcl, hco, hx, rfl⟩
     refine RN.m rfl ?_
     refine RN.p rfl (p_extract rfl rfl rfl) ?_
     refine RN.p rfl (p_extract rfl rfl rfl) ?_
     refine RN.E rfl rfl rfl rfl (e_alloc rfl ti_31) ?_
     rintro _ _ ⟨b8, rfl, rfl⟩
     refine RN.EN rfl rfl rfl (e_storeA (vs := cs') rfl ts_31 rfl rfl hcl hco (i := 0) rfl (Nat.le_refl 4)) ?_
     rintro _ _ ⟨rfl, rfl⟩
     refine RN.a rfl ?_
     refine RN.nil ?_
     refine hK16 _ _ ?_
     refine T.seq fun K17 hK17 => ?_
     refine T.seq fun K18 hK18 => ?_
     refine T.region (l := [0, 1]) rfl ?_
     refine RN.m rfl ?_
     refine RN.p rfl (by first | exact (p_not_dec rfl rfl) | exact (p_not rfl rfl)) ?_
     refine RN.nil ?_
     refine hK18 _ _ ?_
     first | refine T.cond_dec rfl (fun h41 => ?_) (fun h41 => ?_) | refine T.cond rfl (fun h41 => ?_) (fun h41 => ?_)
     ·
      have hno : lineF (linesF t)[i] = none := by
       rcases hx with ⟨h, _⟩ | ⟨_, h⟩
       · rw [h] at h41; simp at h41
       · exact h
      refine T.seq fun K19 hK19 => ?_
      refine T.region (l := [0, 1, 2, 3, 4]) rfl ?_
      refine RN.m rfl ?_
      refine RN.p rfl (by first | exact (p_addN (b := 1) rfl rfl rfl (by omega)) | exact (p_add rfl rfl rfl (by omega))) ?_
      refine RN.a rfl ?_
      refine RN.a rfl ?_
      refine RN.a rfl ?_
      refine RN.nil ?_
      refine hK19 _ _ ?_
      refine T.ret ?_
      refine Post.seq_r ?_
      refine Post.block_r ?_
      refine Post.seq_r ?_
      refine Post.seq_r ?_
      refine Post.block_r ?_
      refine Post.seq_r ?_
      refine bodyQ_ret [vec 31 4 (.slice none 0 0) 0 ([])] (RetRun.tmp (RetRun.tmp (RetRun.tmp RetRun.nil))) ⟨.slice none 0 0, [], i + 1, 3, rfl, rfl, .inr ⟨hlim, .inl ⟨pars_bad hlt hnum hsk hno, rfl, rfl⟩⟩, rfl⟩ (((Ent.pull_drop (is := [3]) rfl)).trans Ent.vec_nil')
     ·
      obtain ⟨c, hc, rfl⟩ : ∃ c, lineF (linesF t)[i] = some c ∧ cs' = rcC c := by
       rcases hx with ⟨_, h⟩ | ⟨h, _⟩
       · exact h
       · rw [h] at h41; simp at h41
      refine T.skip ?_
      refine hK17 _ _ ?_
      refine T.region (l := [0, 1, 2, 3, 4]) rfl ?_
      refine RN.m rfl ?_
      refine RN.u rfl (q_loadA (vs := rcC c) rfl ag_31 ts_31 rfl (i := 0) rfl (Nat.le_refl 4) rfl) ?_
      refine RN.E rfl rfl rfl rfl (e_buildSlice1A (vs := rcC c) rfl Tryz.underlying27 ti_31 rfl rfl rfl (by decide)) ?_
      rintro _ _ ⟨b46, rfl, rfl⟩
      refine RN.E rfl rfl rfl rfl (e_append rfl Tryz.underlying27 ni_27 ti_31 rfl rfl (i := 2) rfl (src_full (i := 0) rfl rfl) rc_one (by omega)) ?_
      rintro v47 _ ⟨hv47, rfl⟩
      refine RN.a rfl ?_
      refine RN.nil ?_
      refine hK13 _ _ ?_
      refine T.region (l := [0, 1, 2]) rfl ?_
      refine RN.m rfl ?_
      refine RN.p rfl (by first | exact (p_addN (b := 1) rfl rfl rfl (by omega)) | exact (p_add rfl rfl rfl (by omega))) ?_
      refine RN.a rfl ?_
      refine RN.nil ?_
      refine ⟨(i + 1, acc ++ [c], v47), ⟨hlt, by rw [List.length_append]; show acc.length + 1 ≤ i + 1; omega, hv47, pars_good hlt hnum hsk hc⟩, (by show _ - (i + 1) < _ - i; omega), (LiveIs.cons rfl (LiveIs.cons rfl (LiveIs.cons rfl (LiveIs.cons rfl LiveIs.nil)))), ((Ent.pull_drop (is := [2, 2, 2]) rfl).trans (Ent.cons (vec_eq (by rw [List.length_append]; rfl) flat_rc.symm) (Ent.cons (vec_of_row (by simp) c1 c2 c3) (Ent.refl _))))⟩
   ·
    refine T.exit ?_
    refine Post.seq_x ?_
    refine Post.seq_x ?_
    refine Post.block_hit ?_
    refine hK8 _ _ ?_
    refine T.seq fun K20 hK20 => ?_
    refine T.region (l := [0, 1, 2, 3]) rfl ?_
    refine RN.m rfl ?_
    refine RN.a rfl ?_
    refine RN.a rfl ?_
    refine RN.a rfl ?_
    refine RN.nil ?_
    refine hK20 _ _ ?_
    refine T.ret ?_
    refine bodyQ_ret [vec 31 4 v6 acc.length ((acc.map rcC).flatten)] (RetRun.tmp (RetRun.tmp (RetRun.tmp RetRun.nil))) ⟨v6, acc, 0, 0, rfl, hv6, .inr ⟨hlim, .inr ⟨pars_end (by omega) hnum, rfl, rfl⟩⟩, rfl⟩ (Ent.pull_drop (is := [0, 1]) rfl)

end Go.Proofs.YtokbjejbgbdkoaaGreatDoor
namespace Go.Proofs.YtokbjejbgbdkoaaGreatDoor
open Go Go.Sl Go.Proofs
set_option maxRecDepth 20000
open Go.Mo Go.Proofs Go.Shelf Go.RowKit
def mu (n : Int) : Nat := 2 * n.natAbs + (if n < 0 then 1 else 0)
theorem mu_neg (m : Nat) : mu (-(m : Int)) ≤ 2 * m + 1 ∧ 2 * m ≤ mu (-(m : Int)) := by unfold mu; split <;> omega
theorem mu_negp {m : Nat} (h : 0 < m) : mu (-(m : Int)) = 2 * m + 1 := by unfold mu; rw [if_pos (by omega)]; omega
theorem mu_pos (m : Nat) : mu (m : Int) = 2 * m := by unfold mu; rw [if_neg (by omega)]; omega

theorem Num20_walk (n : Int) (hn : -1000000000 ≤ n ∧ n ≤ 1000000000) (ih : ∀ m : Int, mu m < mu n → -1000000000 ≤ m → m ≤ 1000000000 → Ctr Tryz.prog 18 [.int .i64 m] [] (fun w Ps => w = strV (Lib.itoa m) ∧ Ps = [])) : Ctr Tryz.prog 18 [.int .i64 n] [] (fun w Ps => w = strV (Lib.itoa n) ∧ Ps = []) := by
 refine Ctr.of_body Tryz.func18 rfl (by kernel_rfl) Tryz.ntmps18 rfl rfl (fun Fr => ?_)
 refine T.seq fun K1 hK1 => ?_
 refine T.region (l := [0]) rfl ?_
 refine RN.a rfl ?_
 refine RN.nil ?_
 refine hK1 _ _ ?_
 refine T.seq fun K2 hK2 => ?_
 refine T.seq fun K3 hK3 => ?_
 refine T.region (l := [0, 1]) rfl ?_
 refine RN.m rfl ?_
 refine RN.p rfl (p_lss rfl rfl rfl) ?_
 refine RN.nil ?_
 refine hK3 _ _ ?_
 first | refine T.cond_dec rfl (fun h4 => ?_) (fun h4 => ?_) | refine T.cond rfl (fun h4 => ?_) (fun h4 => ?_)
 ·
  obtain ⟨m, hm⟩ := Int.eq_ofNat_of_zero_le (show 0 ≤ -n by omega)
  obtain rfl : n = -(m : Int) := by omega
  have hmu := mu_negp (m := m) (by omega)
  have hmod := Nat.mod_lt m (show 10 > 0 by omega)
  have hl1 := dd_len 9 (m / 10) (by omega)
  have hl2 := dd_len 9 (m % 10) (by omega)
  refine T.seq fun K4 hK4 => ?_
  refine T.region (l := [0, 1, 2, 3, 4, 5, 6, 7, 8]) rfl ?_
  refine RN.m rfl ?_
  refine RN.p rfl (p_quo_w rfl rfl rfl (by decide)) ?_
  rw [show IntKind.i64.wrap ((-(m : Int)).tdiv 10) = -((m / 10 : Nat) : Int) from by rw [tdiv_neg, wrap64_in (by omega) (by omega)]]
  refine RN.C [] rfl rfl rfl rfl (c_call rfl rfl) (ih (-((m / 10 : Nat) : Int)) (by have := mu_neg (m / 10); omega) (by omega) (by omega)) rfl ?_
  rintro _ _ ⟨rfl, rfl⟩
  refine RN.m rfl ?_
  refine RN.p rfl (p_rem_w rfl rfl rfl (by decide)) ?_
  rw [tmod_neg]
  refine RN.p rfl (p_neg rfl rfl) ?_
  rw [show IntKind.i64.wrap (0 - -((m % 10 : Nat) : Int)) = ((m % 10 : Nat) : Int) from by rw [wrap64_in (by omega) (by omega)]; omega]
  refine RN.C [] rfl rfl rfl rfl (c_call rfl rfl) (ih ((m % 10 : Nat) : Int) (by rw [mu_pos]; omega) (by omega) (by omega)) rfl ?_
  rintro _ _ ⟨rfl, rfl⟩
  refine RN.p rfl (p_sadd rfl rfl rfl (by rw [itoa_neg (by omega), itoa_pos, List.length_cons]; omega)) ?_
  refine RN.a rfl ?_
  refine RN.nil ?_
  refine hK4 _ _ ?_
  refine T.ret ?_
  refine Post.seq_r ?_
  refine bodyQ_ret [] (RetRun.tmp RetRun.nil) ⟨congrArg strV (num_neg (by omega)), rfl⟩ (Ent.refl _)
 ·
  refine T.skip ?_
  refine hK2 _ _ ?_
  refine T.seq fun K5 hK5 => ?_
  refine T.seq fun K6 hK6 => ?_
  refine T.region (l := [0, 1]) rfl ?_
  refine RN.m rfl ?_
  refine RN.p rfl (p_lss rfl rfl rfl) ?_
  refine RN.nil ?_
  refine hK6 _ _ ?_
  first | refine T.cond_dec rfl (fun h14 => ?_) (fun h14 => ?_) | refine T.cond rfl (fun h14 => ?_) (fun h14 => ?_)
  ·
   obtain ⟨m, hm⟩ := Int.eq_ofNat_of_zero_le (show 0 ≤ -n by omega)
   obtain rfl : n = -(m : Int) := by omega
   have hmu := mu_negp (m := m) (by omega)
   have hl1 := dd_len 9 m (by omega)
   refine T.seq fun K7 hK7 => ?_
   refine T.region (l := [0, 1, 2, 3, 4]) rfl ?_
   refine RN.m rfl ?_
   refine RN.p rfl (p_neg rfl rfl) ?_
   rw [show IntKind.i64.wrap (0 - -(m : Int)) = (m : Int) from by rw [wrap64_in (by omega) (by omega)]; omega]
   refine RN.C [] rfl rfl rfl rfl (c_call rfl rfl) (ih (m : Int) (by rw [mu_pos]; omega) (by omega) (by omega)) rfl ?_
   rintro _ _ ⟨rfl, rfl⟩
   refine RN.p rfl (p_sadd rfl rfl rfl (by rw [itoa_pos]; simp only [List.length_cons, List.length_nil]; omega)) ?_
   refine RN.a rfl ?_
   refine RN.nil ?_
   refine hK7 _ _ ?_
   refine T.ret ?_
   refine Post.seq_r ?_
   refine bodyQ_ret [] (RetRun.tmp RetRun.nil) ⟨congrArg strV (num_neg1 (by omega)), rfl⟩ (Ent.refl _)
  ·
   obtain ⟨m, rfl⟩ := Int.eq_ofNat_of_zero_le (show 0 ≤ n by omega)
   have hmu := mu_pos m
   have hmod := Nat.mod_lt m (show 10 > 0 by omega)
   have hl1 := dd_len 9 (m / 10) (by omega)
   refine T.skip ?_
   refine hK5 _ _ ?_
   refine T.seq fun K8 hK8 => ?_
   refine T.seq fun K9 hK9 => ?_
   refine T.region (l := [0, 1]) rfl ?_
   refine RN.m rfl ?_
   refine RN.p rfl (p_gtr rfl rfl rfl) ?_
   refine RN.nil ?_
   refine hK9 _ _ ?_
   first | refine T.cond_dec rfl (fun h20 => ?_) (fun h20 => ?_) | refine T.cond rfl (fun h20 => ?_) (fun h20 => ?_)
   ·
    refine T.seq fun K10 hK10 => ?_
    refine T.regionD (z := 2) (Bs := _) (l := [(0, .pure), (1, .pure), (3, .pure), (4, .pure), (5, .pure), (6, .pure), (7, .pure), (8, .pure), (2, .eff), (9, .pure), (10, .pure)]) mixed (by kernel_rfl) (Ent.refl _) ?_
    refine RD.n rfl (p_move rfl (by conv => lhs; whnf)) ?_
    refine RD.n rfl (by first | exact (p_quoN (b := 10) rfl rfl rfl (by omega)) | exact (p_quo rfl rfl rfl (by omega))) ?_
    refine RD.n rfl (p_move rfl (by conv => lhs; whnf)) ?_
    refine RD.n rfl (by first | exact (p_remN (b := 10) rfl rfl rfl (by omega)) | exact (p_rem rfl rfl rfl (by omega))) ?_
    refine RD.n rfl (p_move rfl (by conv => lhs; whnf)) ?_
    refine RD.n rfl (by first | exact (p_remN (b := 10) rfl rfl rfl (by omega)) | exact (p_rem rfl rfl rfl (by omega))) ?_
    refine RD.n rfl (by first | exact (p_addN (b := 1) rfl rfl rfl (by omega)) | exact (p_add rfl rfl rfl (by omega))) ?_
    refine RD.n rfl (p_sliceN_s (l := m % 10) (h := m % 10 + 1) rfl Tryz.underlying9 rfl rfl rfl ⟨by omega, by show _ ≤ 10; omega⟩) ?_
    refine RD.C [] rfl rfl rfl rfl (c_call rfl rfl) (ih ((m / 10 : Nat) : Int) (by rw [mu_pos]; omega) (by omega) (by omega)) rfl (fun _ _ _ => .inr rfl) ?_
    rintro _ _ ⟨rfl, rfl⟩
    refine RD.n rfl (p_sadd rfl rfl rfl (by rw [itoa_pos]; show _ + ((dcL.take (m % 10 + 1)).drop (m % 10)).length ≤ _; rw [dc_at _ hmod]; simp only [List.length_cons, List.length_nil]; omega)) ?_
    refine RD.n rfl (p_assign rfl (by conv => lhs; whnf)) ?_
    refine RD.nil ?_
    refine hK10 _ _ ?_
    refine T.ret ?_
    refine Post.seq_r ?_
    refine bodyQ_ret [] (RetRun.tmp RetRun.nil) ⟨congrArg strV (num_big (by omega)), rfl⟩ (Ent.refl _)
   ·
    refine T.skip ?_
    refine hK8 _ _ ?_
    refine T.seq fun K11 hK11 => ?_
    refine T.region (l := [0, 1, 2, 3, 4]) rfl ?_
    refine RN.m rfl ?_
    refine RN.m rfl ?_
    refine RN.p rfl (by first | exact (p_addN (b := 1) rfl rfl rfl (by omega)) | exact (p_add rfl rfl rfl (by omega))) ?_
    refine RN.p rfl (p_sliceN_s (l := m) (h := m + 1) rfl Tryz.underlying9 rfl rfl rfl ⟨by omega, by show _ ≤ 10; omega⟩) ?_
    refine RN.a rfl ?_
    refine RN.nil ?_
    refine hK11 _ _ ?_
    refine T.ret ?_
    refine bodyQ_ret [] (RetRun.tmp RetRun.nil) ⟨congrArg strV (num_small (by omega)), rfl⟩ (Ent.refl _)

theorem Num20_spec : ∀ (k : Nat) (n : Int), mu n ≤ k → -1000000000 ≤ n → n ≤ 1000000000 → Ctr Tryz.prog 18 [.int .i64 n] [] (fun w Ps => w = strV (Lib.itoa n) ∧ Ps = []) := by
 intro k
 induction k using Nat.strongRecOn with
 | _ k ih => exact fun n hk h1 h2 => Num20_walk n ⟨h1, h2⟩ (fun m hm g1 g2 => ih (mu m) (by omega) m (Nat.le_refl _) g1 g2)
theorem Num_20 {n : Int} (h : -999999999 ≤ n ∧ n ≤ 999999999) : Ctr Tryz.prog 18 [.int .i64 n] [] (fun w Ps => w = strV (Lib.itoa n) ∧ Ps = []) := Num20_spec _ n (Nat.le_refl _) (by omega) (by omega)
theorem told_step {w s : List UInt8} {xs : List Int} {i : Nat} (hlt : i < xs.length) (h : s = w ++ ((xs.take i).map nT).flatten) : s ++ ([32] ++ Lib.itoa xs[i]) = w ++ ((xs.take (i + 1)).map nT).flatten := by
 rw [h, List.take_succ_eq_append_getElem hlt, List.map_append, List.flatten_append]
 simp [nT]
theorem below_grow {w w' : World} {k : Nat} {os : Array Obj} (h : w' = Go.Sort.grow (w.drewN k) os) : Below w.heap.size w w' := by
 subst h
 refine ⟨rfl, rfl, rfl, ?_, fun i hi => ?_⟩
 ·
  show w.heap.size ≤ (w.heap ++ os).size
  rw [Array.size_append]; omega
 ·
  show (w.heap ++ os)[i]? = _
  rw [Array.getElem?_append_left hi]
theorem Itoa_spec (A : Assn) (hB : Glob2 Tryz.prog 0 A) (n : Int) (hn : -999999999 ≤ n ∧ n ≤ 999999999) : Ctr Tryz.prog 88 [.int .i64 n] [A] (fun w Ps => w = strV (Lib.itoa n) ∧ Ps = [A]) :=
 Ctr.ofBelow ⟨_, Tryz.func88, by kernel_rfl, by kernel_rfl⟩ fun W0 Fr w hs => (Any.strconv_Itoa laysM171 n (by omega) (by omega) w (hB.pow W0 [Fr] w hs)).mono fun e w' ⟨he, k, os, hw⟩ => ⟨he, below_grow hw⟩
theorem Told20_spec (A : Assn) (hB : Glob2 Tryz.prog 0 A) (w : List UInt8) (b c : Nat) (xs : List Int) (hx : ∀ v ∈ xs, -999999999 ≤ v ∧ v ≤ 999999999) (hw : w.length ≤ 1000) (hl : xs.length ≤ 2) : Ctr Tryz.prog 121 [strV w, slc b 0 xs.length c] [row b 3 (xs.map iC), A] (fun u Ps => u = strV (w ++ (xs.map nT).flatten) ∧ Ps = [A]) := by
 refine Ctr.of_body Tryz.func121 rfl (by kernel_rfl) Tryz.ntmps121 rfl rfl (fun Fr => ?_)
 refine T.seq fun K1 hK1 => ?_
 refine T.region (l := [0]) rfl ?_
 refine RN.a rfl ?_
 refine RN.nil ?_
 refine hK1 _ _ ?_
 refine T.seq fun K2 hK2 => ?_
 refine T.seq fun K3 hK3 => ?_
 refine T.region (l := [0, 1, 2]) rfl ?_
 refine RN.m rfl ?_
 refine RN.p rfl (p_len rfl Tryz.underlying77 rfl) ?_
 refine RN.m rfl ?_
 refine RN.nil ?_
 refine hK3 _ _ ?_
 refine T.block ?_
 refine T.loop (G := Nat × List UInt8) (fun ⟨i, s⟩ => i ≤ xs.length ∧ s = w ++ ((xs.take i).map nT).flatten ∧ s.length ≤ w.length + 11 * i) (fun ⟨i, s⟩ => [(0, strV s), (7, slc b 0 xs.length c), (8, intV xs.length), (9, intV i)]) (fun ⟨i, s⟩ => [row b 3 (xs.map iC), A, Fr]) (fun ⟨i, s⟩ => xs.length - i) (0, w) ⟨Nat.zero_le _, by simp, by simp⟩ (LiveIs.cons rfl (LiveIs.cons rfl (LiveIs.cons rfl (LiveIs.cons rfl LiveIs.nil)))) (Ent.refl _) ?_
 rintro ⟨i, s⟩ e4 ⟨hil0, hs, hsl⟩
 dsimp only
 refine T.seq fun K5 hK5 => ?_
 refine T.region (l := [0]) rfl ?_
 refine RN.p rfl (p_lss rfl rfl rfl) ?_
 refine RN.nil ?_
 refine hK5 _ _ ?_
 refine T.seq fun K6 hK6 => ?_
 first | refine T.cond_dec rfl (fun h10 => ?_) (fun h10 => ?_) | refine T.cond rfl (fun h10 => ?_) (fun h10 => ?_)
 ·
  have hlt : i < xs.length := by omega
  have hxi := hx _ (List.getElem_mem hlt)
  have hil := itoa_len hxi
  refine T.skip ?_
  refine hK6 _ _ ?_
  refine T.seq fun K7 hK7 => ?_
  refine T.block ?_
  refine T.seq fun K8 hK8 => ?_
  refine T.region (l := [0, 1, 2]) rfl ?_
  refine RN.p rfl (by first | exact (p_indexAddr1N rfl Tryz.underlying77 ts_3 rfl rfl (by omega)) | exact (p_indexAddr1 rfl Tryz.underlying77 ts_3 rfl rfl (by omega))) ?_
  refine RN.u rfl (q_load (v := iC xs[i]) rfl sc_3 rfl (i := 0) rfl (by rw [Nat.zero_add, List.getElem?_map, List.getElem?_eq_getElem hlt]; rfl)) ?_
  refine RN.a rfl ?_
  refine RN.nil ?_
  refine hK8 _ _ ?_
  refine T.region (l := [0, 1, 2, 3, 4, 5]) rfl ?_
  refine RN.m rfl ?_
  refine RN.m rfl ?_
  refine RN.C [1] rfl rfl rfl rfl (c_call rfl rfl) (Itoa_spec A hB xs[i] hxi) rfl ?_
  rintro _ _ ⟨rfl, rfl⟩
  refine RN.p rfl (p_sadd rfl rfl rfl (by simp only [List.length_cons, List.length_nil]; omega)) ?_
  refine RN.p rfl (p_sadd rfl rfl rfl (by simp only [List.length_append, List.length_cons, List.length_nil]; omega)) ?_
  refine RN.a rfl ?_
  refine RN.nil ?_
  refine hK7 _ _ ?_
  refine T.region (l := [0, 1]) rfl ?_
  refine RN.p rfl (by first | exact (p_addN (b := 1) rfl rfl rfl (by omega)) | exact (p_add rfl rfl rfl (by omega))) ?_
  refine RN.m rfl ?_
  refine RN.nil ?_
  refine ⟨(i + 1, s ++ ([32] ++ Lib.itoa xs[i])), ⟨hlt, told_step hlt hs, by simp only [List.length_append, List.length_cons, List.length_nil]; omega⟩, (by show _ - (i + 1) < _ - i; omega), (LiveIs.cons rfl (LiveIs.cons rfl (LiveIs.cons rfl (LiveIs.cons rfl LiveIs.nil)))), (Ent.pull_drop (is := [1, 0, 0]) rfl)⟩
 ·
  have hie : xs.length ≤ i := by omega
  refine T.exit ?_
  refine Post.seq_x ?_
  refine Post.seq_x ?_
  refine Post.block_hit ?_
  refine hK2 _ _ ?_
  refine T.seq fun K9 hK9 => ?_
  refine T.region (l := [0, 1]) rfl ?_
  refine RN.m rfl ?_
  refine RN.a rfl ?_
  refine RN.nil ?_
  refine hK9 _ _ ?_
  refine T.ret ?_
  refine bodyQ_ret [A] (RetRun.tmp RetRun.nil) ⟨congrArg strV (by rw [hs, List.take_of_length_le hie]), rfl⟩ (Ent.pull_drop (is := [1, 1]) rfl)

end Go.Proofs.YtokbjejbgbdkoaaGreatDoor
