/-
 The reference of scripts: walked.
-/
import Derived.Test.YtokbjejbgbdkoaaDoorGYdC4
import Derived.Test.YtokbjejbgbdkoaaDoorGModelC
set_option linter.unusedVariables false
set_option linter.unusedSimpArgs false
namespace Go.Proofs.YtokbjejbgbdkoaaDoor
open Go Go.Sl Go.Proofs
set_option maxRecDepth 20000
open Go.Mo Go.Proofs Go.Shelf Go.RowKit
end Go.Proofs.YtokbjejbgbdkoaaDoor
namespace Go.Proofs.YtokbjejbgbdkoaaDoor
open Go Go.Sl Go.Proofs
set_option maxRecDepth 20000
open Go.Mo Go.Proofs Go.Shelf Go.RowKit
end Go.Proofs.YtokbjejbgbdkoaaDoor
namespace Go.Proofs.YtokbjejbgbdkoaaDoor
open Go Go.Sl Go.Proofs
set_option maxRecDepth 20000
open Go.Mo Go.Proofs Go.Shelf Go.RowKit
theorem cuts_one : ∀ {a : List UInt8}, NoNl a → cutsF a = [a]
 | [], _ => rfl
 | c :: a, h => by
  have ih := cuts_one (a := a) (fun d hd => h d (List.mem_cons_of_mem _ hd))
  unfold cutsF
  rw [if_neg (h c (List.mem_cons_self ..)), ih]
theorem cuts_nl : ∀ {a r : List UInt8}, NoNl a → cutsF (a ++ 10 :: r) = a :: cutsF r
 | [], r, _ => by
  show cutsF (10 :: r) = _
  conv => lhs; unfold cutsF
  rw [if_pos rfl]
 | c :: a, r, h => by
  have ih := cuts_nl (a := a) (r := r) (fun d hd => h d (List.mem_cons_of_mem _ hd))
  show cutsF (c :: (a ++ 10 :: r)) = _
  conv => lhs; unfold cutsF
  rw [if_neg (h c (List.mem_cons_self ..)), ih]
/-- No line ends between these places. -/
def Flat (l : List UInt8) (f i : Nat) : Prop := ∀ k (hk : k < l.length), f ≤ k → k < i → l[k] ≠ 10
theorem flat_take {l : List UInt8} {f i : Nat} (h : Flat l f i) : NoNl ((l.drop f).take (i - f)) := fun c hc => by
 obtain ⟨k, hk, rfl⟩ := List.getElem_of_mem hc
 rw [List.length_take, List.length_drop] at hk
 rw [List.getElem_take, List.getElem_drop]
 exact h _ (by omega) (by omega) (by omega)
theorem cuts_step {l : List UInt8} {f i : Nat} {acc : List (List UInt8)} (hf : f ≤ i) (hi : i < l.length) (h10 : l[i] = 10) (hfl : Flat l f i) (h : cutsF l = acc ++ cutsF (l.drop f)) : cutsF l = (acc ++ [(l.take i).drop f]) ++ cutsF (l.drop (i + 1)) := by
 have e : l.drop f = (l.drop f).take (i - f) ++ 10 :: l.drop (i + 1) := by
  conv => lhs; rw [← List.take_append_drop (i - f) (l.drop f)]
  congr 1
  rw [List.drop_drop, show f + (i - f) = i from by omega, List.drop_eq_getElem_cons hi, h10]
 rw [h]
 conv => lhs; rw [e, cuts_nl (flat_take hfl)]
 rw [List.drop_take]
 simp
theorem lines_end {l : List UInt8} {f : Nat} {acc : List (List UInt8)} (hfl : Flat l f l.length) (h : cutsF l = acc ++ cutsF (l.drop f)) : (f < l.length → linesF l = acc ++ [l.drop f]) ∧ (l.length ≤ f → linesF l = acc) := by
 have hn : NoNl (l.drop f) := by
  have := flat_take hfl
  rwa [List.take_of_length_le (by rw [List.length_drop]; omega)] at this
 rw [cuts_one hn] at h
 have hlast : (cutsF l).getLast (cutsF_ne l) = l.drop f := by
  have : ∀ (x : List (List UInt8)) (hx : x ≠ []), x = acc ++ [l.drop f] → x.getLast hx = l.drop f := by
   rintro x hx rfl
   simp
  exact this _ _ h
 constructor
 ·
  intro hf
  unfold linesF
  rw [hlast, if_neg (by intro g; have := congrArg List.length g; rw [List.length_drop] at this; simp only [List.length_nil] at this; omega), h]
 ·
  intro hf
  have h0 : l.drop f = [] := List.drop_eq_nil_of_le hf
  unfold linesF
  rw [hlast, if_pos h0, h]
  simp
theorem RLines_spec (l : List UInt8) (hl : l.length ≤ 100000000) : Ctr Tryd.prog 8 [strV l] [] (fun w Ps => ∃ v, w = v ∧ v.oneCell' = true ∧ Ps = [vec 9 1 v (linesF l).length ((linesF l).map strV)]) := by
 refine Ctr.of_body Tryd.func8 rfl (by kernel_rfl) Tryd.ntmps8 rfl rfl (fun Fr => ?_)
 refine T.seq fun K1 hK1 => ?_
 refine T.region (l := [0]) rfl ?_
 refine RN.a rfl ?_
 refine RN.nil ?_
 refine hK1 _ _ ?_
 refine T.seq fun K2 hK2 => ?_
 refine T.region (l := [0, 1]) rfl ?_
 refine RN.E rfl rfl rfl rfl (by first | exact (e_makeSliceN (n := 0) (c := 0) rfl Tryd.underlying26 ti_9 rfl rfl rfl (by decide)) | exact (e_makeSlice rfl Tryd.underlying26 ti_9 rfl rfl rfl (by decide))) ?_
 rintro _ _ ⟨b6, rfl, rfl⟩
 refine RN.a rfl ?_
 refine RN.nil ?_
 refine hK2 _ _ ?_
 refine T.seq fun K3 hK3 => ?_
 refine T.region (l := [0]) rfl ?_
 refine RN.a rfl ?_
 refine RN.nil ?_
 refine hK3 _ _ ?_
 refine T.seq fun K4 hK4 => ?_
 refine T.seq fun K5 hK5 => ?_
 refine T.region (l := [0]) rfl ?_
 refine RN.a rfl ?_
 refine RN.nil ?_
 refine hK5 _ _ ?_
 refine T.block ?_
 refine T.loop (G := Nat × Nat × List (List UInt8) × Value) (fun ⟨i, f, acc, v3⟩ => f ≤ i ∧ i ≤ l.length ∧ acc.length ≤ f ∧ Flat l f i ∧ v3.oneCell' = true ∧ cutsF l = acc ++ cutsF (l.drop f)) (fun ⟨i, f, acc, v3⟩ => [(0, strV l), (3, v3), (4, intV f), (5, intV i)]) (fun ⟨i, f, acc, v3⟩ => [vec 9 1 v3 acc.length (acc.map strV), Fr]) (fun ⟨i, f, acc, v3⟩ => l.length - i) (0, 0, [], slc b6 0 0 0) ⟨Nat.le_refl _, Nat.zero_le _, Nat.le_refl _, (fun k _ _ h => absurd h (Nat.not_lt_zero _)), rfl, rfl⟩ (LiveIs.cons rfl (LiveIs.cons rfl (LiveIs.cons rfl (LiveIs.cons rfl LiveIs.nil)))) (Ent.cons (vec_of_row (xs := []) (rest := []) rfl (Nat.le_refl _) (by decide) rfl) (Ent.refl _)) ?_
 rintro ⟨i, f, acc, v3⟩ e6 ⟨hfi, hil, hacc, hfl, hv3, hcu⟩
 dsimp only
 refine T.seq fun K7 hK7 => ?_
 refine T.seq fun K8 hK8 => ?_
 refine T.region (l := [0, 1, 2, 3]) rfl ?_
 refine RN.m rfl ?_
 refine RN.m rfl ?_
 refine RN.p rfl (p_len_s rfl Tryd.underlying9 rfl) ?_
 refine RN.p rfl (p_lss rfl rfl rfl) ?_
 refine RN.nil ?_
 refine hK8 _ _ ?_
 first | refine T.cond_dec rfl (fun h10 => ?_) (fun h10 => ?_) | refine T.cond rfl (fun h10 => ?_) (fun h10 => ?_)
 ·
  have hlt : i < l.length := by omega
  refine T.skip ?_
  refine hK7 _ _ ?_
  refine T.seq fun K9 hK9 => ?_
  refine T.block ?_
  refine T.seq fun K10 hK10 => ?_
  refine T.region (l := [0, 1, 2, 3]) rfl ?_
  refine RN.m rfl ?_
  refine RN.m rfl ?_
  refine RN.p rfl (by first | exact (p_indexN_s rfl Tryd.underlying9 rfl rfl (List.getElem?_eq_getElem hlt)) | exact (p_index_s rfl Tryd.underlying9 rfl rfl (List.getElem?_eq_getElem hlt))) ?_
  refine RN.p rfl (p_eql rfl rfl rfl) ?_
  refine RN.nil ?_
  refine hK10 _ _ ?_
  first | refine T.cond_dec rfl (fun h16 => ?_) (fun h16 => ?_) | refine T.cond rfl (fun h16 => ?_) (fun h16 => ?_)
  ·
   have h10 : l[i] = 10 := u8_of (n := 10) (by rw [h16]; rfl)
   refine T.seq fun K11 hK11 => ?_
   refine T.region (l := [0, 1, 2, 3, 4, 5, 6, 7]) rfl ?_
   refine RN.m rfl ?_
   refine RN.m rfl ?_
   refine RN.m rfl ?_
   refine RN.m rfl ?_
   refine RN.p rfl (by first | exact (p_sliceN_s rfl Tryd.underlying9 rfl rfl rfl (by omega)) | exact (p_slice_s rfl Tryd.underlying9 rfl rfl rfl (by omega))) ?_
   refine RN.E rfl rfl rfl rfl (e_buildSlice1 rfl Tryd.underlying26 ti_9 rfl (by conv => lhs; whnf) rfl) ?_
   rintro _ _ ⟨b22, rfl, rfl⟩
   refine RN.E rfl rfl rfl rfl (e_append rfl Tryd.underlying26 ni_26 ti_9 rfl rfl (i := 1) rfl (src_full (i := 0) rfl rfl) (one_one rfl) (by omega)) ?_
   rintro v23 _ ⟨hv23, rfl⟩
   refine RN.a rfl ?_
   refine RN.nil ?_
   refine hK11 _ _ ?_
   refine T.region (l := [0, 1, 2]) rfl ?_
   refine RN.m rfl ?_
   refine RN.p rfl (by first | exact (p_addN (b := 1) rfl rfl rfl (by omega)) | exact (p_add rfl rfl rfl (by omega))) ?_
   refine RN.a rfl ?_
   refine RN.nil ?_
   refine hK9 _ _ ?_
   refine T.region (l := [0, 1, 2]) rfl ?_
   refine RN.m rfl ?_
   refine RN.p rfl (by first | exact (p_addN (b := 1) rfl rfl rfl (by omega)) | exact (p_add rfl rfl rfl (by omega))) ?_
   refine RN.a rfl ?_
   refine RN.nil ?_
   refine ⟨(i + 1, i + 1, acc ++ [(l.take i).drop f], v23), ⟨Nat.le_refl _, hlt, (by rw [List.length_append]; show acc.length + 1 ≤ i + 1; omega), (fun k _ (h1 : i + 1 ≤ k) (h2 : k < i + 1) => by omega), hv23, cuts_step hfi hlt h10 hfl hcu⟩, (by show _ - (i + 1) < _ - i; omega), (LiveIs.cons rfl (LiveIs.cons rfl (LiveIs.cons rfl (LiveIs.cons rfl LiveIs.nil)))), ((Ent.pull_drop (is := [1, 1]) rfl).trans (Ent.cons (vec_eq (by rw [List.length_append]; rfl) (by rw [List.map_append]; rfl)) (Ent.refl _)))⟩
  ·
   refine T.skip ?_
   refine hK9 _ _ ?_
   refine T.region (l := [0, 1, 2]) rfl ?_
   refine RN.m rfl ?_
   refine RN.p rfl (by first | exact (p_addN (b := 1) rfl rfl rfl (by omega)) | exact (p_add rfl rfl rfl (by omega))) ?_
   refine RN.a rfl ?_
   refine RN.nil ?_
   refine ⟨(i + 1, f, acc, v3), ⟨by show f ≤ i + 1; omega, hlt, hacc, (fun k hk h1 h2 => by
    by_cases e : k = i
    · subst e; exact fun g => h16 (by rw [g]; rfl)
    · exact hfl k hk h1 (by omega)), hv3, hcu⟩, (by show _ - (i + 1) < _ - i; omega), (LiveIs.cons rfl (LiveIs.cons rfl (LiveIs.cons rfl (LiveIs.cons rfl LiveIs.nil)))), (Ent.refl _)⟩
 ·
  have hie : i = l.length := by omega
  have hend := lines_end (by rw [hie] at hfl; exact hfl) hcu
  refine T.exit ?_
  refine Post.seq_x ?_
  refine Post.seq_x ?_
  refine Post.block_hit ?_
  refine hK4 _ _ ?_
  refine T.seq fun K12 hK12 => ?_
  refine T.seq fun K13 hK13 => ?_
  refine T.region (l := [0, 1, 2, 3]) rfl ?_
  refine RN.m rfl ?_
  refine RN.m rfl ?_
  refine RN.p rfl (p_len_s rfl Tryd.underlying9 rfl) ?_
  refine RN.p rfl (p_lss rfl rfl rfl) ?_
  refine RN.nil ?_
  refine hK13 _ _ ?_
  first | refine T.cond_dec rfl (fun h29 => ?_) (fun h29 => ?_) | refine T.cond rfl (fun h29 => ?_) (fun h29 => ?_)
  ·
   refine T.region (l := [0, 1, 2, 3, 4, 5, 6]) rfl ?_
   refine RN.m rfl ?_
   refine RN.m rfl ?_
   refine RN.m rfl ?_
   refine RN.p rfl (by first | exact (p_slice_s_lo rfl Tryd.underlying9 rfl rfl (by omega)) | exact (p_sliceN_s rfl Tryd.underlying9 rfl rfl rfl (by omega)) | exact (p_slice_s rfl Tryd.underlying9 rfl rfl rfl (by omega))) ?_
   refine RN.E rfl rfl rfl rfl (e_buildSlice1 rfl Tryd.underlying26 ti_9 rfl (by conv => lhs; whnf) rfl) ?_
   rintro _ _ ⟨b34, rfl, rfl⟩
   refine RN.E rfl rfl rfl rfl (e_append rfl Tryd.underlying26 ni_26 ti_9 rfl rfl (i := 1) rfl (src_full (i := 0) rfl rfl) (one_one rfl) (by omega)) ?_
   rintro v35 _ ⟨hv35, rfl⟩
   refine RN.a rfl ?_
   refine RN.nil ?_
   refine hK12 _ _ ?_
   refine T.seq fun K14 hK14 => ?_
   refine T.region (l := [0, 1]) rfl ?_
   refine RN.m rfl ?_
   refine RN.a rfl ?_
   refine RN.nil ?_
   refine hK14 _ _ ?_
   refine T.ret ?_
   have hle := hend.1 (by omega)
   refine bodyQ_ret [vec 9 1 v35 (linesF l).length ((linesF l).map strV)] (RetRun.tmp RetRun.nil) ⟨v35, rfl, hv35, rfl⟩ ((Ent.pull_drop (is := [1, 1]) rfl).trans (Ent.cons (vec_eq (by rw [hle, List.length_append]; rfl) (by rw [hle, List.map_append]; rfl)) (Ent.refl _)))
  ·
   refine T.skip ?_
   refine hK12 _ _ ?_
   refine T.seq fun K15 hK15 => ?_
   refine T.region (l := [0, 1]) rfl ?_
   refine RN.m rfl ?_
   refine RN.a rfl ?_
   refine RN.nil ?_
   refine hK15 _ _ ?_
   refine T.ret ?_
   have hle := hend.2 (by omega)
   refine bodyQ_ret [vec 9 1 v3 (linesF l).length ((linesF l).map strV)] (RetRun.tmp RetRun.nil) ⟨v3, rfl, hv3, rfl⟩ (Ent.cons (vec_eq (by rw [hle]) (by rw [hle])) (Ent.refl _))

end Go.Proofs.YtokbjejbgbdkoaaDoor
namespace Go.Proofs.YtokbjejbgbdkoaaDoor
open Go Go.Sl Go.Proofs
set_option maxRecDepth 20000
open Go.Mo Go.Proofs Go.Shelf Go.RowKit
def mu (n : Int) : Nat := 2 * n.natAbs + (if n < 0 then 1 else 0)
theorem told_step {w s : List UInt8} {xs : List Int} {i : Nat} (hlt : i < xs.length) (h : s = w ++ ((xs.take i).map nT).flatten) : s ++ ([32] ++ Lib.itoa xs[i]) = w ++ ((xs.take (i + 1)).map nT).flatten := by
 rw [h, List.take_succ_eq_append_getElem hlt, List.map_append, List.flatten_append]
 simp [nT]
theorem below_grow {w w' : World} {k : Nat} {os : Array Obj} (h : w' = Go.Sort.grow (w.drewN k) os) : Below w.heap.size w w' := by
 subst h
 refine ⟨rfl, rfl, rfl, ?_, fun i hi => ?_⟩
 ·
  show w.heap.size ≤ (w.heap ++ os).size
  rw [Array.size_append]; omega
 ·
  show (w.heap ++ os)[i]? = _
  rw [Array.getElem?_append_left hi]
theorem Itoa_spec (A : Assn) (hB : Glob2 Tryd.prog 0 A) (n : Int) (hn : -999999999 ≤ n ∧ n ≤ 999999999) : Ctr Tryd.prog 71 [.int .i64 n] [A] (fun w Ps => w = strV (Lib.itoa n) ∧ Ps = [A]) :=
 Ctr.ofBelow ⟨_, Tryd.func71, by kernel_rfl, by kernel_rfl⟩ fun W0 Fr w hs => (Any.strconv_Itoa laysM171 n (by omega) (by omega) w (hB.pow W0 [Fr] w hs)).mono fun e w' ⟨he, k, os, hw⟩ => ⟨he, below_grow hw⟩
theorem Told20_spec (A : Assn) (hB : Glob2 Tryd.prog 0 A) (w : List UInt8) (b c : Nat) (xs : List Int) (hx : ∀ v ∈ xs, -999999999 ≤ v ∧ v ≤ 999999999) (hw : w.length ≤ 1000) (hl : xs.length ≤ 2) : Ctr Tryd.prog 104 [strV w, slc b 0 xs.length c] [row b 3 (xs.map iC), A] (fun u Ps => u = strV (w ++ (xs.map nT).flatten) ∧ Ps = [A]) := by
 refine Ctr.of_body Tryd.func104 rfl (by kernel_rfl) Tryd.ntmps104 rfl rfl (fun Fr => ?_)
 refine T.seq fun K1 hK1 => ?_
 refine T.region (l := [0]) rfl ?_
 refine RN.a rfl ?_
 refine RN.nil ?_
 refine hK1 _ _ ?_
 refine T.seq fun K2 hK2 => ?_
 refine T.seq fun K3 hK3 => ?_
 refine T.region (l := [0, 1, 2]) rfl ?_
 refine RN.m rfl ?_
 refine RN.p rfl (p_len rfl Tryd.underlying63 rfl) ?_
 refine RN.m rfl ?_
 refine RN.nil ?_
 refine hK3 _ _ ?_
 refine T.block ?_
 refine T.loop (G := Nat × List UInt8) (fun ⟨i, s⟩ => i ≤ xs.length ∧ s = w ++ ((xs.take i).map nT).flatten ∧ s.length ≤ w.length + 11 * i) (fun ⟨i, s⟩ => [(0, strV s), (7, slc b 0 xs.length c), (8, intV xs.length), (9, intV i)]) (fun ⟨i, s⟩ => [row b 3 (xs.map iC), A, Fr]) (fun ⟨i, s⟩ => xs.length - i) (0, w) ⟨Nat.zero_le _, by simp, by simp⟩ (LiveIs.cons rfl (LiveIs.cons rfl (LiveIs.cons rfl (LiveIs.cons rfl LiveIs.nil)))) (Ent.refl _) ?_
 rintro ⟨i, s⟩ e4 ⟨hil0, hs, hsl⟩
 dsimp only
 refine T.seq fun K5 hK5 => ?_
 refine T.region (l := [0]) rfl ?_
 refine RN.p rfl (p_lss rfl rfl rfl) ?_
 refine RN.nil ?_
 refine hK5 _ _ ?_
 refine T.seq fun K6 hK6 => ?_
 first | refine T.cond_dec rfl (fun h10 => ?_) (fun h10 => ?_) | refine T.cond rfl (fun h10 => ?_) (fun h10 => ?_)
 ·
  have hlt : i < xs.length := by omega
  have hxi := hx _ (List.getElem_mem hlt)
  have hil := itoa_len hxi
  refine T.skip ?_
  refine hK6 _ _ ?_
  refine T.seq fun K7 hK7 => ?_
  refine T.block ?_
  refine T.seq fun K8 hK8 => ?_
  refine T.region (l := [0, 1, 2]) rfl ?_
  refine RN.p rfl (by first | exact (p_indexAddr1N rfl Tryd.underlying63 ts_3 rfl rfl (by omega)) | exact (p_indexAddr1 rfl Tryd.underlying63 ts_3 rfl rfl (by omega))) ?_
  refine RN.u rfl (q_load (v := iC xs[i]) rfl sc_3 rfl (i := 0) rfl (by rw [Nat.zero_add, List.getElem?_map, List.getElem?_eq_getElem hlt]; rfl)) ?_
  refine RN.a rfl ?_
  refine RN.nil ?_
  refine hK8 _ _ ?_
  refine T.region (l := [0, 1, 2, 3, 4, 5]) rfl ?_
  refine RN.m rfl ?_
  refine RN.m rfl ?_
  refine RN.C [1] rfl rfl rfl rfl (c_call rfl rfl) (Itoa_spec A hB xs[i] hxi) rfl ?_
  rintro _ _ ⟨rfl, rfl⟩
  refine RN.p rfl (p_sadd rfl rfl rfl (by simp only [List.length_cons, List.length_nil]; omega)) ?_
  refine RN.p rfl (p_sadd rfl rfl rfl (by simp only [List.length_append, List.length_cons, List.length_nil]; omega)) ?_
  refine RN.a rfl ?_
  refine RN.nil ?_
  refine hK7 _ _ ?_
  refine T.region (l := [0, 1]) rfl ?_
  refine RN.p rfl (by first | exact (p_addN (b := 1) rfl rfl rfl (by omega)) | exact (p_add rfl rfl rfl (by omega))) ?_
  refine RN.m rfl ?_
  refine RN.nil ?_
  refine ⟨(i + 1, s ++ ([32] ++ Lib.itoa xs[i])), ⟨hlt, told_step hlt hs, by simp only [List.length_append, List.length_cons, List.length_nil]; omega⟩, (by show _ - (i + 1) < _ - i; omega), (LiveIs.cons rfl (LiveIs.cons rfl (LiveIs.cons rfl (LiveIs.cons rfl LiveIs.nil)))), (Ent.pull_drop (is := [1, 0, 0]) rfl)⟩
 ·
  have hie : xs.length ≤ i := by omega
  refine T.exit ?_
  refine Post.seq_x ?_
  refine Post.seq_x ?_
  refine Post.block_hit ?_
  refine hK2 _ _ ?_
  refine T.seq fun K9 hK9 => ?_
  refine T.region (l := [0, 1]) rfl ?_
  refine RN.m rfl ?_
  refine RN.a rfl ?_
  refine RN.nil ?_
  refine hK9 _ _ ?_
  refine T.ret ?_
  refine bodyQ_ret [A] (RetRun.tmp RetRun.nil) ⟨congrArg strV (by rw [hs, List.take_of_length_le hie]), rfl⟩ (Ent.pull_drop (is := [1, 1]) rfl)

end Go.Proofs.YtokbjejbgbdkoaaDoor
