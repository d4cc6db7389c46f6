/-
 Walk of VolWhole.
-/
import Derived.Test.YtbbgajjonodlfaaGreatGYvV5
import Derived.Test.YtbbgajjonodlfaaGreatGModelVo
import Derived.Test.YtbbgajjonodlfaaGreatGEvS6vT0
import Derived.Test.YtbbgajjonodlfaaGreatRows
import Derived.ChangeMaps5
import Derived.SizedLaws
set_option linter.unusedVariables false
set_option linter.unusedSimpArgs false
namespace Go.Proofs.YtbbgajjonodlfaaGreat
open Go Go.Sl Go.Proofs
set_option maxRecDepth 20000
open Go.Mo Go.Evl
def nnL (ls : List Int) (i : Nat) : Nat := 1 + ((ls.getD i 0) % 4).toNat
theorem nnL_pos (ls : List Int) (i : Nat) : 1 ≤ nnL ls i := Nat.le_add_right _ _
theorem nnL_le (ls : List Int) (i : Nat) : nnL ls i ≤ 4 := by unfold nnL; omega
theorem nnL_at {ls : List Int} {i : Nat} (h : i < ls.length) : nnL ls i = 1 + (ls[i] % 4).toNat := by unfold nnL; rw [List.getD_eq_getElem?_getD, List.getElem?_eq_getElem h]; rfl
def datL (ds : List (List UInt8)) (i : Nat) : List UInt8 := ds.getD i []
theorem datL_at {ds : List (List UInt8)} {i : Nat} (h : i < ds.length) : datL ds i = ds[i] := by unfold datL; rw [List.getD_eq_getElem?_getD, List.getElem?_eq_getElem h]; rfl
theorem datL_no {ds : List (List UInt8)} {i : Nat} (h : ds.length ≤ i) : datL ds i = [] := by unfold datL; rw [List.getD_eq_getElem?_getD, List.getElem?_eq_none h]; rfl
def ixs (ix : Nat → Nat) (m : Nat) : List Value := (List.range m).map fun j => intV (ix j)
theorem ixs_length (ix : Nat → Nat) (m : Nat) : (ixs ix m).length = m * 1 := by simp [ixs]
theorem ixs_succ (ix : Nat → Nat) (m i : Nat) : ixs (updF ix m i) (m + 1) = ixs ix m ++ [intV i] := by
 unfold ixs
 rw [List.range_succ, List.map_append, List.map_cons, List.map_nil, updF_at]
 congr 1
 apply List.map_congr_left
 intro j hj
 rw [updF_ne ix i (by have := List.mem_range.1 hj; omega)]
theorem ixs_get {ix : Nat → Nat} {m k : Nat} {rest : List Value} (h : k < m) : (ixs ix m ++ rest)[0 + k]? = some (intV (ix k)) := by
 rw [Nat.zero_add, List.getElem?_append_left (by simp [ixs]; exact h)]
 unfold ixs
 rw [List.getElem?_map, List.getElem?_range h]
 rfl
theorem bneq_iff {p q : Prop} [Decidable p] [Decidable q] (h : p ↔ q) : (!(decide p == decide q)) = false := by
 have e : decide p = decide q := decide_eq_decide.2 h
 rw [e]
 cases decide q <;> rfl
theorem ERun.ofQ {P : Program} {e : Env} {Hs : List Assn} {o : Oper} {v : Value} (h : QRun P e Hs o v) : ERun P e Hs o (fun u H => u = v ∧ H = Hs) := fun W0 w hs => ⟨v, w, Hs, .inl (h W0 w hs), ⟨rfl, rfl⟩, hs⟩

theorem VolWhole_bad (w0 : World) (size : Int) (q1 q2 : Option Addr) (c1 c2 : Nat) (ls : List Int) (ds : List (List UInt8)) (hs : size < 1 ∨ 512 < size) : Ctr Tryz.prog 5 [.int .i64 size, .slice q1 ls.length c1, .slice q2 ds.length c2] [old w0] (fun v Ps => v = .bool true ∧ Ps = [old w0]) := by
 refine Ctr.of_body Tryz.func5 rfl (by kernel_rfl) Tryz.ntmps5 rfl rfl (fun Fr => ?_)
 refine T.seq fun K1 hK1 => ?_
 refine T.region (l := [0]) rfl ?_
 refine RN.a rfl ?_
 refine RN.nil ?_
 refine hK1 _ _ ?_
 refine T.seq fun K2 hK2 => ?_
 refine T.seq fun K3 hK3 => ?_
 refine T.region (l := [0, 1]) rfl ?_
 refine RN.C [] rfl rfl rfl rfl (c_call rfl rfl) (awake25) rfl ?_
 rintro _ _ ⟨rfl, rfl⟩
 refine RN.p rfl (by first | exact (p_not_dec rfl rfl) | exact (p_not rfl rfl)) ?_
 refine RN.nil ?_
 refine hK3 _ _ ?_
 refine T.known 28 rfl (show _ = Value.bool false from rfl) ?_
 refine T.cond_f rfl ?_
 refine T.skip ?_
 refine hK2 _ _ ?_
 refine T.seq fun K4 hK4 => ?_
 refine T.region (l := [0, 1, 2, 3, 4, 5, 6]) rfl ?_
 refine RN.m rfl ?_
 refine RN.C [] rfl rfl rfl rfl (c_call rfl rfl) (New_A size) rfl ?_
 rintro v31 Ps31 hq31
 obtain ⟨rfl, rfl⟩ := NewA_no hq31 (by omega)
 refine RN.m rfl ?_
 refine RN.p rfl (p_extract rfl rfl rfl) ?_
 refine RN.p rfl (p_extract rfl rfl rfl) ?_
 refine RN.a rfl ?_
 refine RN.a rfl ?_
 refine RN.nil ?_
 refine hK4 _ _ ?_
 refine T.seq fun K5 hK5 => ?_
 refine T.seq fun K6 hK6 => ?_
 refine T.region (l := [0, 1, 2, 3, 4, 5, 6, 7, 8, 9, 10, 11, 12, 13, 14]) rfl ?_
 refine RN.m rfl ?_
 refine RN.p rfl (p_neq rfl rfl rfl) ?_
 refine RN.m rfl ?_
 refine RN.known 36 rfl (show _ = Value.bool true from rfl) ?_
 refine RN.no0 rfl ?_
 refine RN.no0 rfl ?_
 refine RN.pt rfl ?_
 refine RN.m rfl ?_
 refine RN.no0 rfl ?_
 refine RN.no0 rfl ?_
 refine RN.pt rfl ?_
 refine RN.m rfl ?_
 refine RN.no0 rfl ?_
 refine RN.no0 rfl ?_
 refine RN.no0 rfl ?_
 refine RN.pt rfl ?_
 refine RN.nil ?_
 refine hK6 _ _ ?_
 refine T.cond_t rfl ?_
 refine T.seq fun K7 hK7 => ?_
 refine T.region (l := [0]) rfl ?_
 refine RN.a rfl ?_
 refine RN.nil ?_
 refine hK7 _ _ ?_
 refine T.ret ?_
 refine Post.seq_r ?_
 refine bodyQ_ret [old w0] (RetRun.tmp RetRun.nil) ⟨rfl, rfl⟩ (Ent.refl _)

theorem VolWhole_skip (w0 : World) (size : Int) (q1 q2 : Option Addr) (c1 c2 : Nat) (ls : List Int) (ds : List (List UInt8)) (hs : 1 ≤ size ∧ size ≤ 512) (hb : 6 < ls.length ∨ size < 9 ∨ 64 < size) : Ctr Tryz.prog 5 [.int .i64 size, .slice q1 ls.length c1, .slice q2 ds.length c2] [old w0] (fun v Ps => v = .bool true ∧ Ps = [old w0]) := by
 refine Ctr.of_body Tryz.func5 rfl (by kernel_rfl) Tryz.ntmps5 rfl rfl (fun Fr => ?_)
 refine T.seq fun K1 hK1 => ?_
 refine T.region (l := [0]) rfl ?_
 refine RN.a rfl ?_
 refine RN.nil ?_
 refine hK1 _ _ ?_
 refine T.seq fun K2 hK2 => ?_
 refine T.seq fun K3 hK3 => ?_
 refine T.region (l := [0, 1]) rfl ?_
 refine RN.C [] rfl rfl rfl rfl (c_call rfl rfl) (awake25) rfl ?_
 rintro _ _ ⟨rfl, rfl⟩
 refine RN.p rfl (by first | exact (p_not_dec rfl rfl) | exact (p_not rfl rfl)) ?_
 refine RN.nil ?_
 refine hK3 _ _ ?_
 refine T.known 28 rfl (show _ = Value.bool false from rfl) ?_
 refine T.cond_f rfl ?_
 refine T.skip ?_
 refine hK2 _ _ ?_
 refine T.seq fun K4 hK4 => ?_
 refine T.region (l := [0, 1, 2, 3, 4, 5, 6]) rfl ?_
 refine RN.m rfl ?_
 refine RN.C [] rfl rfl rfl rfl (c_call rfl rfl) (New_A size) rfl ?_
 rintro v31 Ps31 hq31
 obtain ⟨a, rfl, rfl⟩ := NewA_yes hq31 (by omega)
 refine RN.m rfl ?_
 refine RN.p rfl (p_extract rfl rfl rfl) ?_
 refine RN.p rfl (p_extract rfl rfl rfl) ?_
 refine RN.a rfl ?_
 refine RN.a rfl ?_
 refine RN.nil ?_
 refine hK4 _ _ ?_
 refine T.seq fun K5 hK5 => ?_
 refine T.seq fun K6 hK6 => ?_
 refine T.region (l := [0, 1, 2, 3, 4, 5, 6, 7, 8, 9, 10, 11, 12, 13, 14]) rfl ?_
 refine RN.m rfl ?_
 refine RN.p rfl (p_neq rfl rfl rfl) ?_
 refine RN.m rfl ?_
 refine RN.known 36 rfl (show _ = Value.bool false from rfl) ?_
 refine RN.m rfl ?_
 refine RN.p rfl (p_lss rfl rfl rfl) ?_
 refine RN.pf rfl ?_
 refine RN.m rfl ?_
 first | refine RN.split_dec 40 rfl (fun h40 => ?_) (fun h40 => ?_) | refine RN.split 40 rfl (fun h40 => ?_) (fun h40 => ?_)
 ·
  refine RN.no0 rfl ?_
  refine RN.no0 rfl ?_
  refine RN.pt rfl ?_
  refine RN.m rfl ?_
  refine RN.no0 rfl ?_
  refine RN.no0 rfl ?_
  refine RN.no0 rfl ?_
  refine RN.pt rfl ?_
  refine RN.nil ?_
  refine hK6 _ _ ?_
  refine T.cond_t rfl ?_
  refine T.seq fun K7 hK7 => ?_
  refine T.region (l := [0]) rfl ?_
  refine RN.a rfl ?_
  refine RN.nil ?_
  refine hK7 _ _ ?_
  refine T.ret ?_
  refine Post.seq_r ?_
  refine bodyQ_ret [old w0] (RetRun.tmp RetRun.nil) ⟨rfl, rfl⟩ (Ent.pull_drop (is := [1, 1]) rfl)
 ·
  refine RN.m rfl ?_
  refine RN.p rfl (p_gtr rfl rfl rfl) ?_
  refine RN.pf rfl ?_
  refine RN.m rfl ?_
  first | refine RN.split_dec 44 rfl (fun h44 => ?_) (fun h44 => ?_) | refine RN.split 44 rfl (fun h44 => ?_) (fun h44 => ?_)
  ·
   refine RN.no0 rfl ?_
   refine RN.no0 rfl ?_
   refine RN.no0 rfl ?_
   refine RN.pt rfl ?_
   refine RN.nil ?_
   refine hK6 _ _ ?_
   refine T.cond_t rfl ?_
   refine T.seq fun K8 hK8 => ?_
   refine T.region (l := [0]) rfl ?_
   refine RN.a rfl ?_
   refine RN.nil ?_
   refine hK8 _ _ ?_
   refine T.ret ?_
   refine Post.seq_r ?_
   refine bodyQ_ret [old w0] (RetRun.tmp RetRun.nil) ⟨rfl, rfl⟩ (Ent.pull_drop (is := [1, 1]) rfl)
  ·
   refine RN.m rfl ?_
   refine RN.p rfl (p_len rfl Tryz.underlying54 rfl) ?_
   refine RN.p rfl (p_gtr rfl rfl rfl) ?_
   refine RN.pf rfl ?_
   refine RN.nil ?_
   refine hK6 _ _ ?_
   first | refine T.cond_dec rfl (fun h48 => ?_) (fun h48 => ?_) | refine T.cond rfl (fun h48 => ?_) (fun h48 => ?_)
   ·
    refine T.seq fun K9 hK9 => ?_
    refine T.region (l := [0]) rfl ?_
    refine RN.a rfl ?_
    refine RN.nil ?_
    refine hK9 _ _ ?_
    refine T.ret ?_
    refine Post.seq_r ?_
    refine bodyQ_ret [old w0] (RetRun.tmp RetRun.nil) ⟨rfl, rfl⟩ (Ent.pull_drop (is := [1, 1]) rfl)
   ·
    exfalso; omega --done

end Go.Proofs.YtbbgajjonodlfaaGreat
namespace Go.Proofs.YtbbgajjonodlfaaGreat
open Go Go.Sl Go.Proofs
set_option maxRecDepth 20000
open Go.Mo Go.Evl
theorem VolWhole_run (w0 : World) (sz : Nat) (q1 q2 : Option Addr) (c1 c2 : Nat) (ls : List Int) (ds : List (List UInt8)) (hs : 9 ≤ sz ∧ sz ≤ 64) (hl : ls.length ≤ 6) (hq1 : 0 < ls.length → ∃ b off, q1 = some ⟨b, off, none⟩ ∧ ∀ i (hi : i < ls.length), At w0 b (off + i) [.int .i64 ls[i]]) (hq2 : 0 < ds.length → ∃ b off, q2 = some ⟨b, off, none⟩ ∧ ∀ i (hi : i < ds.length), At w0 b (off + i) [strV ds[i]]) : Ctr Tryz.prog 5 [intV sz, .slice q1 ls.length c1, .slice q2 ds.length c2] [old w0] (fun v Ps => v = .bool true ∧ Ps = [old w0]) := by
 refine Ctr.of_body Tryz.func5 rfl (by kernel_rfl) Tryz.ntmps5 rfl rfl (fun Fr => ?_)
 have hpos := nnL_pos ls
 refine T.seq fun K1 hK1 => ?_
 refine T.region (l := [0]) rfl ?_
 refine RN.a rfl ?_
 refine RN.nil ?_
 refine hK1 _ _ ?_
 refine T.seq fun K2 hK2 => ?_
 refine T.seq fun K3 hK3 => ?_
 refine T.region (l := [0, 1]) rfl ?_
 refine RN.C [] rfl rfl rfl rfl (c_call rfl rfl) (awake25) rfl ?_
 rintro _ _ ⟨rfl, rfl⟩
 refine RN.p rfl (by first | exact (p_not_dec rfl rfl) | exact (p_not rfl rfl)) ?_
 refine RN.nil ?_
 refine hK3 _ _ ?_
 refine T.known 28 rfl (show _ = Value.bool false from rfl) ?_
 refine T.cond_f rfl ?_
 refine T.skip ?_
 refine hK2 _ _ ?_
 refine T.seq fun K4 hK4 => ?_
 refine T.region (l := [0, 1, 2, 3, 4, 5, 6]) rfl ?_
 refine RN.m rfl ?_
 refine RN.C [] rfl rfl rfl rfl (c_call rfl rfl) (New_A (sz : Int)) rfl ?_
 rintro v31 Ps31 hq31
 obtain ⟨a, rfl, rfl⟩ := NewA_yes hq31 (by omega)
 rw [Int.toNat_natCast]
 refine RN.m rfl ?_
 refine RN.p rfl (p_extract rfl rfl rfl) ?_
 refine RN.p rfl (p_extract rfl rfl rfl) ?_
 refine RN.a rfl ?_
 refine RN.a rfl ?_
 refine RN.nil ?_
 refine hK4 _ _ ?_
 refine T.seq fun K5 hK5 => ?_
 refine T.seq fun K6 hK6 => ?_
 refine T.region (l := [0, 1, 2, 3, 4, 5, 6, 7, 8, 9, 10, 11, 12, 13, 14]) rfl ?_
 refine RN.m rfl ?_
 refine RN.p rfl (p_neq rfl rfl rfl) ?_
 refine RN.m rfl ?_
 refine RN.known 36 rfl (show _ = Value.bool false from rfl) ?_
 refine RN.m rfl ?_
 refine RN.p rfl (p_lss rfl rfl rfl) ?_
 refine RN.pf rfl ?_
 refine RN.m rfl ?_
 refine RN.known 40 rfl (show _ = Value.bool false from congrArg Value.bool (decide_eq_false (by omega))) ?_
 refine RN.m rfl ?_
 refine RN.p rfl (p_gtr rfl rfl rfl) ?_
 refine RN.pf rfl ?_
 refine RN.m rfl ?_
 refine RN.known 44 rfl (show _ = Value.bool false from congrArg Value.bool (decide_eq_false (by omega))) ?_
 refine RN.m rfl ?_
 refine RN.p rfl (p_len rfl Tryz.underlying54 rfl) ?_
 refine RN.p rfl (p_gtr rfl rfl rfl) ?_
 refine RN.pf rfl ?_
 refine RN.nil ?_
 refine hK6 _ _ ?_
 refine T.known 48 rfl (show _ = Value.bool false from congrArg Value.bool (decide_eq_false (by omega))) ?_
 refine T.cond_f rfl ?_
 refine T.skip ?_
 refine hK5 _ _ ?_
 refine T.seq fun K7 hK7 => ?_
 refine T.region (l := [0, 1, 2, 3, 4, 5, 6, 7]) rfl ?_
 refine RN.m rfl ?_
 refine RN.p rfl (p_makeIfaceP rfl Tryz.underlying24 rfl) ?_
 refine RN.C [0] rfl rfl rfl rfl (c_call rfl rfl) (Open_yes a sz (List.replicate (sz * 32) 0) (by omega) (by simp)) rfl ?_
 rintro v52 _ ⟨s, rfl, rfl⟩
 rw [op_zero]
 refine RN.m rfl ?_
 refine RN.p rfl (p_extract rfl rfl rfl) ?_
 refine RN.p rfl (p_extract rfl rfl rfl) ?_
 refine RN.a rfl ?_
 refine RN.a rfl ?_
 refine RN.nil ?_
 refine hK7 _ _ ?_
 refine T.seq fun K8 hK8 => ?_
 refine T.seq fun K9 hK9 => ?_
 refine T.region (l := [0, 1]) rfl ?_
 refine RN.m rfl ?_
 refine RN.p rfl (p_neq rfl rfl rfl) ?_
 refine RN.nil ?_
 refine hK9 _ _ ?_
 refine T.known 56 rfl (show _ = Value.bool false from congrArg Value.bool (decide_eq_false (not_not_intro rfl))) ?_
 refine T.cond_f rfl ?_
 refine T.skip ?_
 refine hK8 _ _ ?_
 refine T.seq fun K10 hK10 => ?_
 refine T.region (l := [0, 1, 2]) rfl ?_
 refine RN.m rfl ?_
 refine RN.p rfl (by first | exact (p_subN (b := 8) rfl rfl rfl (by omega)) | exact (p_sub rfl rfl rfl (by omega))) ?_
 refine RN.a rfl ?_
 refine RN.nil ?_
 refine hK10 _ _ ?_
 refine T.seq fun K11 hK11 => ?_
 refine T.region (l := [0]) rfl ?_
 refine RN.a rfl ?_
 refine RN.nil ?_
 refine hK11 _ _ ?_
 refine T.seq fun K12 hK12 => ?_
 refine T.seq fun K13 hK13 => ?_
 refine T.region (l := [0]) rfl ?_
 refine RN.a rfl ?_
 refine RN.nil ?_
 refine hK13 _ _ ?_
 refine T.block ?_
 refine T.loop (G := Nat × Nat × (Nat → Nat) × (Nat → Nat) × List VE × List UInt8 × Value) (fun ⟨i, m, ix, nz, es, t, v⟩ => i ≤ ls.length ∧ W1 sz (datL ds) (nnL ls) i m ix nz es t) (fun ⟨i, m, ix, nz, es, t, v⟩ => [(0, intV sz), (1, .slice q1 ls.length c1), (2, .slice q2 ds.length c2), (9, ptr s 0), (10, .int .i64 ((sz : Int) - (fW nz m : Nat))), (11, v), (12, intV i)]) (fun ⟨i, m, ix, nz, es, t, v⟩ => [vec 3 1 v m (ixs ix m), row s 72 (stC 24 a sz es), arrA 63 57 5 a t, old w0, Fr]) (fun ⟨i, m, ix, nz, es, t, v⟩ => ls.length - i) (0, 0, fun _ => 0, fun _ => 0, List.replicate 8 VE.zero, List.replicate (sz * 32) 0, .slice none 0 0) ⟨Nat.zero_le _, W1.init (by omega)⟩ (LiveIs.cons rfl (LiveIs.cons rfl (LiveIs.cons rfl (LiveIs.cons rfl (LiveIs.cons (congrArg (Value.int .i64) (show ((sz - 8 : Nat) : Int) = (sz : Int) - ((8 : Nat) : Int) by omega)) (LiveIs.cons rfl (LiveIs.cons rfl LiveIs.nil))))))) Ent.vec_nil' ?_
 rintro ⟨i, m, ix, nz, es, t, v⟩ e14 ⟨hik, hw⟩
 dsimp only
 refine T.seq fun K15 hK15 => ?_
 refine T.seq fun K16 hK16 => ?_
 refine T.region (l := [0, 1, 2, 3]) rfl ?_
 refine RN.m rfl ?_
 refine RN.m rfl ?_
 refine RN.p rfl (p_len rfl Tryz.underlying54 rfl) ?_
 refine RN.p rfl (p_lss rfl rfl rfl) ?_
 refine RN.nil ?_
 refine hK16 _ _ ?_
 first | refine T.cond_dec rfl (fun h62 => ?_) (fun h62 => ?_) | refine T.cond rfl (fun h62 => ?_) (fun h62 => ?_)
 ·
  have hi : i < ls.length := by omega
  obtain ⟨b1, o1, rfl, hat⟩ := hq1 (by omega)
  have hni : nnL ls i = 1 + (ls[i] % 4).toNat := nnL_at hi
  have hn4 := nnL_le ls i
  have hmi := hw.mi
  have hwfit := hw.fit
  refine T.skip ?_
  refine hK15 _ _ ?_
  refine T.seq fun K17 hK17 => ?_
  refine T.block ?_
  refine T.seq fun K18 hK18 => ?_
  refine T.region (l := [0, 1, 2, 3, 4, 5, 6]) rfl ?_
  refine RN.m rfl ?_
  refine RN.m rfl ?_
  refine RN.p rfl (by first | exact (p_indexAddr1N rfl Tryz.underlying54 ts_3 rfl rfl (by omega)) | exact (p_indexAddr1 rfl Tryz.underlying54 ts_3 rfl rfl (by omega))) ?_
  refine RN.u rfl (QRun.ent ((Ent.pull_drop (is := [3]) rfl).trans (Ent.cons (old_cellsAt (hat i hi)) (Ent.refl _))) (q_load1C (k := 0) rfl sc_3 rfl (i := 0) rfl rfl)) ?_
  refine RN.p rfl (p_and3 rfl rfl rfl) ?_
  refine RN.p rfl (by first | exact (p_addN (a := 1) rfl rfl rfl (by omega)) | exact (p_add rfl rfl rfl (by omega))) ?_
  refine RN.a rfl ?_
  refine RN.nil ?_
  refine hK18 _ _ ?_
  refine T.seq fun K19 hK19 => ?_
  refine T.known 13 rfl (show _ = intV (nnL ls i) from congrArg intV hni.symm) ?_
  refine T.region (l := [0, 1, 2, 3, 4, 5, 6, 7, 8, 9]) rfl ?_
  refine RN.m rfl ?_
  refine RN.m rfl ?_
  refine RN.p rfl (by first | exact (p_addN (a := 48) rfl rfl rfl (by omega)) | exact (p_add rfl rfl rfl (by omega))) ?_
  refine RN.p rfl (p_convB rfl Tryz.underlying3 Tryz.underlying5 rfl) ?_
  refine RN.E rfl rfl rfl rfl (e_buildSlice1 rfl Tryz.underlying57 ti_5 rfl (by conv => lhs; whnf) rfl) ?_
  rintro _ _ ⟨b75, rfl, rfl⟩
  refine RN.u rfl (q_bytes_str rfl Tryz.underlying57 Tryz.underlying5 Tryz.underlying9 rfl (i := 0) rfl (l := [UInt8.ofNat (48 + i)]) (by show 0 + 1 ≤ 1; omega) rfl) ?_
  refine RN.p rfl (p_sadd rfl rfl rfl (Nat.le_of_ble_eq_true rfl)) ?_
  refine RN.m rfl ?_
  refine RN.C [2, 2] rfl rfl rfl rfl (c_call rfl rfl) (Create_spec s a sz es t (vnT i) (nnL ls i : Nat) hw.v (by omega) hw.tl) rfl ?_
  rintro _ _ ⟨rfl, rfl⟩
  refine RN.a rfl ?_
  refine RN.nil ?_
  refine hK19 _ _ ?_
  refine T.seq fun K20 hK20 => ?_
  refine T.seq fun K21 hK21 => ?_
  have hcr : (creV sz es t (vnT i) (nnL ls i : Nat)).1 = 0 ↔ ((nnL ls i : Nat) : Int) ≤ (sz : Int) - (fW nz m : Nat) := by
   by_cases hf : fW nz m + nnL ls i ≤ sz
   · rw [hw.fits (by omega) ⟨hpos i, by omega⟩ hpos hf]; exact ⟨fun _ => by omega, fun _ => rfl⟩
   · rw [hw.full (by omega) ⟨hpos i, by omega⟩ hf]; exact ⟨(fun h => by cases h), fun h => absurd h (by omega)⟩
  refine T.region (l := [0, 1, 2, 3, 4, 5]) rfl ?_
  refine RN.m rfl ?_
  refine RN.p rfl (p_eql rfl rfl rfl) ?_
  refine RN.m rfl ?_
  refine RN.m rfl ?_
  refine RN.p rfl (p_leq rfl rfl rfl) ?_
  refine RN.p rfl (p_bneq rfl rfl rfl Tryz.underlying4) ?_
  refine RN.nil ?_
  refine hK21 _ _ ?_
  refine T.known 85 rfl (show _ = Value.bool false from congrArg Value.bool (bneq_iff hcr)) ?_
  refine T.cond_f rfl ?_
  refine T.skip ?_
  refine hK20 _ _ ?_
  refine T.seq fun K22 hK22 => ?_
  refine T.seq fun K23 hK23 => ?_
  refine T.region (l := [0, 1]) rfl ?_
  refine RN.m rfl ?_
  refine RN.p rfl (p_neq rfl rfl rfl) ?_
  refine RN.nil ?_
  refine hK23 _ _ ?_
  first | refine T.cond_dec rfl (fun h87 => ?_) (fun h87 => ?_) | refine T.cond rfl (fun h87 => ?_) (fun h87 => ?_)
  ·
   have hnf : ¬ fW nz m + nnL ls i ≤ sz := fun hf => h87 (by rw [hw.fits (by omega) ⟨hpos i, by omega⟩ hpos hf])
   have hcre := hw.full (by omega) ⟨hpos i, by omega⟩ hnf
   refine T.exit ?_
   refine Post.seq_x ?_
   refine Post.block_hit ?_
   refine hK17 _ _ ?_
   refine T.region (l := [0, 1, 2]) rfl ?_
   refine RN.m rfl ?_
   refine RN.p rfl (by first | exact (p_addN (b := 1) rfl rfl rfl (by omega)) | exact (p_add rfl rfl rfl (by omega))) ?_
   refine RN.a rfl ?_
   refine RN.nil ?_
   refine ⟨(i + 1, m, ix, nz, es, t, v), ⟨by omega, hw.skip⟩, (by simp; omega), (LiveIs.cons rfl (LiveIs.cons rfl (LiveIs.cons rfl (LiveIs.cons rfl (LiveIs.cons rfl (LiveIs.cons rfl (LiveIs.cons rfl LiveIs.nil))))))), (by rw [hcre]; exact Ent.pull_drop (is := [3, 0, 0, 1, 1]) rfl)⟩
  ·
   have hf : fW nz m + nnL ls i ≤ sz := by
    by_cases hf : fW nz m + nnL ls i ≤ sz
    · exact hf
    ·
     rw [hw.full (by omega) ⟨hpos i, by omega⟩ hf] at h87
     exact absurd (show (5 : Int) ≠ 0 by decide) h87
   have hcv := cre_inv hw.v (first_ex hw.v) t (vnT i) (nnL ls i : Nat)
   have hct : (creV sz es t (vnT i) (nnL ls i : Nat)).2.2.length = sz * 32 := (cre_len _ _ _ _ _).trans hw.tl
   have hpn := hw.plcNew (by omega) ⟨hpos i, by omega⟩ hpos hf
   have hf1 : fW (updF nz m (nnL ls i)) (m + 1) = fW nz m + nnL ls i := by rw [fW, fW_upd nz (Nat.le_refl _), updF_at]
   refine T.skip ?_
   refine hK22 _ _ ?_
   refine T.seq fun K24 hK24 => ?_
   refine T.region (l := [0, 1, 2, 3]) rfl ?_
   refine RN.m rfl ?_
   refine RN.m rfl ?_
   refine RN.p rfl (by first | exact (p_subN rfl rfl rfl (by omega)) | exact (p_sub rfl rfl rfl (by omega))) ?_
   refine RN.a rfl ?_
   refine RN.nil ?_
   refine hK24 _ _ ?_
   refine T.seq fun K25 hK25 => ?_
   refine T.region (l := [0, 1, 2, 3, 4]) rfl ?_
   refine RN.m rfl ?_
   refine RN.m rfl ?_
   refine RN.E rfl rfl rfl rfl (e_buildSlice1 rfl Tryz.underlying54 ti_3 rfl (by conv => lhs; whnf) rfl) ?_
   rintro _ _ ⟨b93, rfl, rfl⟩
   refine RN.E rfl rfl rfl rfl (e_append rfl Tryz.underlying54 ni_54 ti_3 rfl rfl (i := 4) rfl (src_full (i := 0) rfl rfl) (by first | exact one_one rfl | simp [Value.oneCell']) (by omega)) ?_
   rintro v94 _ ⟨hv94, rfl⟩
   refine RN.a rfl ?_
   refine RN.nil ?_
   refine hK25 _ _ ?_
   refine T.seq fun K26 hK26 => ?_
   refine T.regionD (z := 17) (Bs := [old w0]) (l := [(0, .pure), (1, .pure), (2, .pure), (3, .pure), (4, .pure), (5, .pure), (6, .pure), (7, .pure), (8, .pure), (12, .pure), (13, .pure), (14, .pure), (15, .pure), (16, .load), (9, .eff), (10, .eff), (11, .pure), (17, .eff), (18, .pure), (19, .pure)]) mixed (by kernel_rfl) (by first | exact Ent.refl _ | exact Ent.pull_drop (is := [0]) rfl | exact Ent.pull_drop (is := [1]) rfl | exact Ent.pull_drop (is := [2]) rfl | exact Ent.pull_drop (is := [3]) rfl | exact Ent.pull_drop (is := [4]) rfl | exact Ent.pull_drop (is := [5]) rfl | exact Ent.pull_drop (is := [6]) rfl | exact Ent.pull_drop (is := [7]) rfl) ?_
   refine RD.n rfl (p_move rfl (by conv => lhs; whnf)) ?_
   refine RD.n rfl (p_move rfl (by conv => lhs; whnf)) ?_
   refine RD.n rfl (p_len rfl Tryz.underlying55 rfl) ?_
   refine RD.n rfl (p_lss rfl rfl rfl) ?_
   refine RD.n rfl (p_move rfl (by conv => lhs; whnf)) ?_
   first | refine RD.split_dec 99 rfl (fun h99 => ?_) (fun h99 => ?_) | refine RD.split 99 rfl (fun h99 => ?_) (fun h99 => ?_)
   ·
    have hi2 : i < ds.length := by omega
    obtain ⟨b2, o2, rfl, hat2⟩ := hq2 (by omega)
    have hdi : datL ds i = ds[i] := datL_at hi2
    have hwy := wri_yes (es := (creV sz es t (vnT i) (nnL ls i : Nat)).2.1) (t := (creV sz es t (vnT i) (nnL ls i : Nat)).2.2) (name := vnT i) (at_ := 0) (n := (nnL ls i : Nat)) (data := ds[i]) (by rw [hpn])
    have hw0 : (wriV (creV sz es t (vnT i) (nnL ls i : Nat)).2.1 (creV sz es t (vnT i) (nnL ls i : Nat)).2.2 (vnT i) 0 (nnL ls i : Nat) ds[i]).1 = 0 := by rw [hwy]
    refine RD.n rfl (p_move rfl (by conv => lhs; whnf)) ?_
    refine RD.n rfl (p_move rfl (by conv => lhs; whnf)) ?_
    refine RD.n rfl (by first | exact (p_addN (a := 48) rfl rfl rfl (by omega)) | exact (p_add rfl rfl rfl (by omega))) ?_
    refine RD.n rfl (p_convB rfl Tryz.underlying3 Tryz.underlying5 rfl) ?_
    refine RD.n rfl (p_move rfl (by conv => lhs; whnf)) ?_
    refine RD.n rfl (p_move rfl (by conv => lhs; whnf)) ?_
    refine RD.n rfl (p_move rfl (by conv => lhs; whnf)) ?_
    refine RD.n rfl (by first | exact (p_indexAddr1N rfl Tryz.underlying55 ts_9 rfl rfl (by omega)) | exact (p_indexAddr1 rfl Tryz.underlying55 ts_9 rfl rfl (by omega))) ?_
    refine RD.qq rfl rfl rfl rfl (QRun.ent ((Ent.pull_drop (is := [0]) rfl).trans (Ent.cons (old_cellsAt (hat2 i hi2)) (Ent.refl _))) (q_load1C (k := 0) rfl sc_9 rfl (i := 0) rfl rfl)) (by first | exact Ent.pull_drop (is := [0]) rfl | exact Ent.pull_drop (is := [1]) rfl | exact Ent.pull_drop (is := [2]) rfl | exact Ent.pull_drop (is := [3]) rfl | exact Ent.pull_drop (is := [4]) rfl | exact Ent.pull_drop (is := [5]) rfl | exact Ent.pull_drop (is := [6]) rfl | exact Ent.pull_drop (is := [7]) rfl) ?_
    refine RD.E rfl rfl rfl rfl (e_buildSlice1 rfl Tryz.underlying57 ti_5 rfl (by conv => lhs; whnf) rfl) (by rintro _ _ ⟨_, rfl, rfl⟩; exact .inl (by first | exact Ent.refl _ | exact Ent.pull_drop (is := [0]) rfl | exact Ent.pull_drop (is := [1]) rfl | exact Ent.pull_drop (is := [2]) rfl | exact Ent.pull_drop (is := [3]) rfl | exact Ent.pull_drop (is := [4]) rfl | exact Ent.pull_drop (is := [5]) rfl | exact Ent.pull_drop (is := [6]) rfl | exact Ent.pull_drop (is := [7]) rfl)) ?_
    rintro _ _ ⟨b104, rfl, rfl⟩
    refine RD.E rfl rfl rfl rfl (ERun.ofQ (q_bytes_str rfl Tryz.underlying57 Tryz.underlying5 Tryz.underlying9 rfl (i := 0) rfl (l := [UInt8.ofNat (48 + i)]) (by show 0 + 1 ≤ 1; omega) rfl)) (by rintro _ _ ⟨rfl, rfl⟩; exact .inl (by first | exact Ent.pull_drop (is := [0]) rfl | exact Ent.pull_drop (is := [1]) rfl | exact Ent.pull_drop (is := [2]) rfl | exact Ent.pull_drop (is := [3]) rfl | exact Ent.pull_drop (is := [4]) rfl | exact Ent.pull_drop (is := [5]) rfl | exact Ent.pull_drop (is := [6]) rfl | exact Ent.pull_drop (is := [7]) rfl)) ?_
    rintro _ _ ⟨rfl, rfl⟩
    refine RD.n rfl (p_sadd rfl rfl rfl (Nat.le_of_ble_eq_true rfl)) ?_
    refine RD.C [2, 2] rfl rfl rfl rfl (c_call rfl rfl) (VWrite_spec s a sz (creV sz es t (vnT i) (nnL ls i : Nat)).2.1 (creV sz es t (vnT i) (nnL ls i : Nat)).2.2 (vnT i) 0 (nnL ls i : Nat) ds[i] hcv (by omega) hct) rfl (fun _ _ _ => .inr rfl) ?_
    rintro _ _ ⟨rfl, rfl⟩
    refine RD.n rfl (p_neq rfl rfl rfl) ?_
    refine RD.n rfl (p_pick_t rfl rfl (by conv => lhs; whnf)) ?_
    refine RD.nil ?_
    refine hK26 _ _ ?_
    refine T.known 114 rfl (show _ = Value.bool false from congrArg Value.bool (decide_eq_false (not_not_intro hw0))) ?_
    refine T.cond_f rfl ?_
    refine T.skip ?_
    refine hK17 _ _ ?_
    refine T.region (l := [0, 1, 2]) rfl ?_
    refine RN.m rfl ?_
    refine RN.p rfl (by first | exact (p_addN (b := 1) rfl rfl rfl (by omega)) | exact (p_add rfl rfl rfl (by omega))) ?_
    refine RN.a rfl ?_
    refine RN.nil ?_
    refine ⟨(i + 1, m + 1, updF ix m i, updF nz m (nnL ls i), (creV sz es t (vnT i) (nnL ls i : Nat)).2.1, (wriV (creV sz es t (vnT i) (nnL ls i : Nat)).2.1 (creV sz es t (vnT i) (nnL ls i : Nat)).2.2 (vnT i) 0 (nnL ls i : Nat) ds[i]).2, v94), ⟨by omega, hw.step (by omega) ⟨hpos i, by omega⟩ hpos hf (.inr (by rw [hwy, hpn, hdi]))⟩, (by simp; omega), (LiveIs.cons rfl (LiveIs.cons rfl (LiveIs.cons rfl (LiveIs.cons rfl (LiveIs.cons (congrArg (Value.int .i64) (by rw [hf1]; omega)) (LiveIs.cons rfl (LiveIs.cons rfl LiveIs.nil))))))), ((Ent.pull_drop (is := [5, 0, 0, 3, 3]) rfl).trans (Ent.cons (Ent.of_eq (by rw [ixs_succ])) (Ent.refl _)))⟩
   ·
    have hdn : datL ds i = [] := datL_no (by omega)
    refine RD.OP rfl rfl rfl rfl ?_
    refine RD.OP rfl rfl rfl rfl ?_
    refine RD.OP rfl rfl rfl rfl ?_
    refine RD.OP rfl rfl rfl rfl ?_
    refine RD.OP rfl rfl rfl rfl ?_
    refine RD.OP rfl rfl rfl rfl ?_
    refine RD.OP rfl rfl rfl rfl ?_
    refine RD.OP rfl rfl rfl rfl ?_
    refine RD.OL rfl rfl rfl rfl (by first | exact Ent.refl _ | exact Ent.pull_drop (is := [0]) rfl | exact Ent.pull_drop (is := [1]) rfl | exact Ent.pull_drop (is := [2]) rfl | exact Ent.pull_drop (is := [3]) rfl | exact Ent.pull_drop (is := [4]) rfl | exact Ent.pull_drop (is := [5]) rfl | exact Ent.pull_drop (is := [6]) rfl | exact Ent.pull_drop (is := [7]) rfl) ?_
    refine RD.OE rfl rfl rfl rfl (.inl (by first | exact Ent.refl _ | exact Ent.pull_drop (is := [0]) rfl | exact Ent.pull_drop (is := [1]) rfl | exact Ent.pull_drop (is := [2]) rfl | exact Ent.pull_drop (is := [3]) rfl | exact Ent.pull_drop (is := [4]) rfl | exact Ent.pull_drop (is := [5]) rfl | exact Ent.pull_drop (is := [6]) rfl | exact Ent.pull_drop (is := [7]) rfl)) ?_
    refine RD.OE rfl rfl rfl rfl (.inl (by first | exact Ent.refl _ | exact Ent.pull_drop (is := [0]) rfl | exact Ent.pull_drop (is := [1]) rfl | exact Ent.pull_drop (is := [2]) rfl | exact Ent.pull_drop (is := [3]) rfl | exact Ent.pull_drop (is := [4]) rfl | exact Ent.pull_drop (is := [5]) rfl | exact Ent.pull_drop (is := [6]) rfl | exact Ent.pull_drop (is := [7]) rfl)) ?_
    refine RD.OP rfl rfl rfl rfl ?_
    refine RD.OE rfl rfl rfl rfl (.inr rfl) ?_
    refine RD.OP rfl rfl rfl rfl ?_
    refine RD.n rfl (p_pick_f rfl rfl (by conv => lhs; whnf)) ?_
    refine RD.nil ?_
    refine hK26 _ _ ?_
    refine T.cond_f rfl ?_
    refine T.skip ?_
    refine hK17 _ _ ?_
    refine T.region (l := [0, 1, 2]) rfl ?_
    refine RN.m rfl ?_
    refine RN.p rfl (by first | exact (p_addN (b := 1) rfl rfl rfl (by omega)) | exact (p_add rfl rfl rfl (by omega))) ?_
    refine RN.a rfl ?_
    refine RN.nil ?_
    refine ⟨(i + 1, m + 1, updF ix m i, updF nz m (nnL ls i), (creV sz es t (vnT i) (nnL ls i : Nat)).2.1, (creV sz es t (vnT i) (nnL ls i : Nat)).2.2, v94), ⟨by omega, hw.step (by omega) ⟨hpos i, by omega⟩ hpos hf (.inl ⟨rfl, hdn⟩)⟩, (by simp; omega), (LiveIs.cons rfl (LiveIs.cons rfl (LiveIs.cons rfl (LiveIs.cons rfl (LiveIs.cons (congrArg (Value.int .i64) (by rw [hf1]; omega)) (LiveIs.cons rfl (LiveIs.cons rfl LiveIs.nil))))))), ((Ent.pull_drop (is := [4, 1, 1, 2, 2]) rfl).trans (Ent.cons (Ent.of_eq (by rw [ixs_succ])) (Ent.refl _)))⟩
 ·
  refine T.exit ?_
  refine Post.seq_x ?_
  refine Post.seq_x ?_
  refine Post.block_hit ?_
  refine hK12 _ _ ?_
  refine T.seq fun K27 hK27 => ?_
  refine T.seq fun K28 hK28 => ?_
  refine T.region (l := [0, 1, 2, 3]) rfl ?_
  refine RN.m rfl ?_
  refine RN.C [1] rfl rfl rfl rfl (c_call rfl rfl) (Free_spec s a sz es hw.v (by omega)) rfl ?_
  rintro _ _ ⟨rfl, rfl⟩
  refine RN.m rfl ?_
  refine RN.p rfl (p_neq rfl rfl rfl) ?_
  refine RN.nil ?_
  refine hK28 _ _ ?_
  refine T.known 118 rfl (show _ = Value.bool false from congrArg Value.bool (decide_eq_false (not_not_intro (by have := hw.sum; omega)))) ?_
  refine T.cond_f rfl ?_
  refine T.skip ?_
  refine hK27 _ _ ?_
  refine T.seq fun K29 hK29 => ?_
  refine T.seq fun K30 hK30 => ?_
  refine T.region (l := [0]) rfl ?_
  refine RN.a rfl ?_
  refine RN.nil ?_
  refine hK30 _ _ ?_
  refine T.block ?_
  have hord : ∀ j, j < m → ix j < ls.length := fun j hj => by have := hw.ord j hj; omega
  refine T.loop (G := Nat × List VE × List UInt8) (fun ⟨k, es, t⟩ => k ≤ m ∧ W2 sz (datL ds) (nnL ls) m ix nz k es t) (fun ⟨k, es, t⟩ => [(0, intV sz), (1, .slice q1 ls.length c1), (2, .slice q2 ds.length c2), (9, ptr s 0), (11, v), (15, intV k)]) (fun ⟨k, es, t⟩ => [vec 3 1 v m (ixs ix m), row s 72 (stC 24 a sz es), arrA 63 57 5 a t, old w0, Fr]) (fun ⟨k, es, t⟩ => m - k) (0, es, t) ⟨Nat.zero_le _, hw.to2 (by omega)⟩ (LiveIs.cons rfl (LiveIs.cons rfl (LiveIs.cons rfl (LiveIs.cons rfl (LiveIs.cons rfl (LiveIs.cons rfl LiveIs.nil)))))) (Ent.pull_drop (is := [1, 0, 0, 0, 0]) rfl) ?_
  rintro ⟨k, es, t⟩ e31 ⟨hkm, hw2⟩
  dsimp only
  refine T.seq fun K32 hK32 => ?_
  refine T.seq fun K33 hK33 => ?_
  refine T.region (l := [0, 1, 2, 3]) rfl ?_
  refine RN.m rfl ?_
  refine RN.m rfl ?_
  refine RN.u rfl (q_len_vec rfl Tryz.underlying54 rfl (i := 0) rfl) ?_
  refine RN.p rfl (p_lss rfl rfl rfl) ?_
  refine RN.nil ?_
  refine hK33 _ _ ?_
  first | refine T.cond_dec rfl (fun h122 => ?_) (fun h122 => ?_) | refine T.cond rfl (fun h122 => ?_) (fun h122 => ?_)
  ·
   have hk : k < m := by omega
   have hix6 := hw2.ord k hk
   have hil : ix k < ls.length := hord k hk
   obtain ⟨b1, o1, rfl, hat⟩ := hq1 (by omega)
   have hnk : nz k = 1 + (ls[ix k] % 4).toNat := (hw2.nz1 k hk).trans (nnL_at hil)
   have hn4 := nnL_le ls (ix k)
   have hnk4 : nz k ≤ 4 := by rw [hw2.nz1 k hk]; exact hn4
   have hm6 := hw2.m6
   refine T.skip ?_
   refine hK32 _ _ ?_
   refine T.seq fun K34 hK34 => ?_
   refine T.block ?_
   refine T.seq fun K35 hK35 => ?_
   refine T.openVec 0 rfl (by omega) ?_
   rintro bw capw restw rfl hw1 hw2a hw3a
   refine T.region (l := [0, 1, 2, 3, 4]) rfl ?_
   refine RN.m rfl ?_
   refine RN.m rfl ?_
   refine RN.p rfl (by first | exact (p_indexAddr1N rfl Tryz.underlying54 ts_3 rfl rfl (by omega)) | exact (p_indexAddr1 rfl Tryz.underlying54 ts_3 rfl rfl (by omega))) ?_
   refine RN.u rfl (q_load rfl sc_3 rfl (i := 0) rfl (ixs_get hk)) ?_
   refine RN.a rfl ?_
   refine RN.nil ?_
   refine hK35 _ _ ?_
   refine T.seq fun K36 hK36 => ?_
   refine T.region (l := [0, 1, 2, 3, 4, 5, 6]) rfl ?_
   refine RN.m rfl ?_
   refine RN.p rfl (by first | exact (p_addN (a := 48) rfl rfl rfl (by omega)) | exact (p_add rfl rfl rfl (by omega))) ?_
   refine RN.p rfl (p_convB rfl Tryz.underlying3 Tryz.underlying5 rfl) ?_
   refine RN.E rfl rfl rfl rfl (e_buildSlice1 rfl Tryz.underlying57 ti_5 rfl (by conv => lhs; whnf) rfl) ?_
   rintro _ _ ⟨b132, rfl, rfl⟩
   refine RN.u rfl (q_bytes_str rfl Tryz.underlying57 Tryz.underlying5 Tryz.underlying9 rfl (i := 0) rfl (l := [UInt8.ofNat (48 + ix k)]) (by show 0 + 1 ≤ 1; omega) rfl) ?_
   refine RN.p rfl (p_sadd rfl rfl rfl (Nat.le_of_ble_eq_true rfl)) ?_
   refine RN.a rfl ?_
   refine RN.nil ?_
   refine hK36 _ _ ?_
   refine T.seq fun K37 hK37 => ?_
   refine T.region (l := [0, 1, 2, 3, 4, 5, 6]) rfl ?_
   refine RN.m rfl ?_
   refine RN.m rfl ?_
   refine RN.p rfl (by first | exact (p_indexAddr1N rfl Tryz.underlying54 ts_3 rfl rfl (by omega)) | exact (p_indexAddr1 rfl Tryz.underlying54 ts_3 rfl rfl (by omega))) ?_
   refine RN.u rfl (QRun.ent ((Ent.pull_drop (is := [4]) rfl).trans (Ent.cons (old_cellsAt (hat (ix k) hil)) (Ent.refl _))) (q_load1C (k := 0) rfl sc_3 rfl (i := 0) rfl rfl)) ?_
   refine RN.p rfl (p_and3 rfl rfl rfl) ?_
   refine RN.p rfl (by first | exact (p_addN (a := 1) rfl rfl rfl (by omega)) | exact (p_add rfl rfl rfl (by omega))) ?_
   refine RN.a rfl ?_
   refine RN.nil ?_
   refine hK37 _ _ ?_
   refine T.seq fun K38 hK38 => ?_
   refine T.known 18 rfl (show _ = intV (nz k) from congrArg intV hnk.symm) ?_
   refine T.region (l := [0, 1, 2, 3]) rfl ?_
   refine RN.m rfl ?_
   refine RN.p rfl (by first | exact (p_mulN (b := 32) rfl rfl rfl (by omega)) | exact (p_mul rfl rfl rfl (by omega))) ?_
   refine RN.E rfl rfl rfl rfl (by first | exact (e_makeSliceN rfl Tryz.underlying57 ti_5 rfl rfl rfl (by omega)) | exact (e_makeSlice rfl Tryz.underlying57 ti_5 rfl rfl rfl (by omega))) ?_
   rintro _ _ ⟨b143, rfl, rfl⟩
   refine RN.a rfl ?_
   refine RN.nil ?_
   refine hK38 _ _ ?_
   refine T.cut (G := Unit) (fun ⟨⟩ => True) (fun ⟨⟩ => [(0, intV sz), (1, .slice (some ⟨b1, o1, none⟩) ls.length c1), (2, .slice q2 ds.length c2), (9, ptr s 0), (11, slc bw 0 m capw), (15, intV k), (16, intV (ix k)), (17, strV (vnT (ix k))), (18, intV (nz k)), (19, slc b143 0 (nz k * 32) (nz k * 32))]) (fun ⟨⟩ => [row b143 5 ((padN (nz k * 32) (datL ds (ix k))).map u8V), row bw 3 (ixs ix m ++ restw), row s 72 (stC 24 a sz es), arrA 63 57 5 a t, old w0, Fr]) ?_ ?_
   ·
    refine T.seq fun K40 hK40 => ?_
    refine T.region (l := [0]) rfl ?_
    refine RN.a rfl ?_
    refine RN.nil ?_
    refine hK40 _ _ ?_
    refine T.block ?_
    refine T.loop (G := Nat) (fun j => j ≤ (nz k * 32) ∧ j ≤ (datL ds (ix k)).length) (fun j => [(0, intV sz), (1, .slice (some ⟨b1, o1, none⟩) ls.length c1), (2, .slice q2 ds.length c2), (9, ptr s 0), (11, slc bw 0 m capw), (15, intV k), (16, intV (ix k)), (17, strV (vnT (ix k))), (18, intV (nz k)), (19, slc b143 0 (nz k * 32) (nz k * 32)), (20, intV j)]) (fun j => [row b143 5 (((datL ds (ix k)).take j).map u8V ++ List.replicate ((nz k * 32) - j) (u8V 0)), row bw 3 (ixs ix m ++ restw), row s 72 (stC 24 a sz es), arrA 63 57 5 a t, old w0, Fr]) (fun j => (nz k * 32) - j) 0 ⟨Nat.zero_le _, Nat.zero_le _⟩ (LiveIs.cons rfl (LiveIs.cons rfl (LiveIs.cons rfl (LiveIs.cons rfl (LiveIs.cons rfl (LiveIs.cons rfl (LiveIs.cons rfl (LiveIs.cons rfl (LiveIs.cons rfl (LiveIs.cons rfl (LiveIs.cons rfl LiveIs.nil))))))))))) ((Ent.pull_drop (is := [0, 1, 1, 1, 1, 1]) rfl).trans (Ent.rowEq (by simp [zeros]))) ?_
    rintro j e41 ⟨hjn, hjd0⟩
    refine T.seq fun K42 hK42 => ?_
    refine T.seq fun K43 hK43 => ?_
    refine T.region (l := [0, 1, 2, 3, 4, 5, 6, 7, 8, 9, 10, 11, 12, 13, 14, 15, 16, 17, 18]) rfl ?_
    refine RN.m rfl ?_
    refine RN.m rfl ?_
    refine RN.p rfl (p_len rfl Tryz.underlying55 rfl) ?_
    refine RN.p rfl (p_lss rfl rfl rfl) ?_
    refine RN.m rfl ?_
    first | refine RN.split_dec 148 rfl (fun h148 => ?_) (fun h148 => ?_) | refine RN.split 148 rfl (fun h148 => ?_) (fun h148 => ?_)
    ·
     have hid : ix k < ds.length := by omega
     obtain ⟨b2, o2, rfl, hat2⟩ := hq2 (by omega)
     have hdk : datL ds (ix k) = ds[ix k] := datL_at hid
     refine RN.m rfl ?_
     refine RN.m rfl ?_
     refine RN.p rfl (p_len rfl Tryz.underlying57 rfl) ?_
     refine RN.p rfl (p_lss rfl rfl rfl) ?_
     refine RN.pt rfl ?_
     refine RN.m rfl ?_
     first | refine RN.split_dec 154 rfl (fun h154 => ?_) (fun h154 => ?_) | refine RN.split 154 rfl (fun h154 => ?_) (fun h154 => ?_)
     ·
      refine RN.m rfl ?_
      refine RN.m rfl ?_
      refine RN.m rfl ?_
      refine RN.p rfl (by first | exact (p_indexAddr1N rfl Tryz.underlying55 ts_9 rfl rfl (by omega)) | exact (p_indexAddr1 rfl Tryz.underlying55 ts_9 rfl rfl (by omega))) ?_
      refine RN.u rfl (QRun.ent ((Ent.pull_drop (is := [4]) rfl).trans (Ent.cons (old_cellsAt (hat2 (ix k) hid)) (Ent.refl _))) (q_load1C (k := 0) rfl sc_9 rfl (i := 0) rfl rfl)) ?_
      refine RN.p rfl (p_len_s rfl Tryz.underlying9 rfl) ?_
      refine RN.p rfl (p_lss rfl rfl rfl) ?_
      refine RN.pt rfl ?_
      refine RN.nil ?_
      refine hK43 _ _ ?_
      first | refine T.cond_dec rfl (fun h162 => ?_) (fun h162 => ?_) | refine T.cond rfl (fun h162 => ?_) (fun h162 => ?_)
      ·
       have hjd : j < ds[ix k].length := by omega
       have hjn2 : j < (nz k * 32) := by omega
       refine T.skip ?_
       refine hK42 _ _ ?_
       refine T.seq fun K44 hK44 => ?_
       refine T.block ?_
       refine T.region (l := [0, 1, 2, 3, 4, 5, 6, 7, 8, 9]) rfl ?_
       refine RN.m rfl ?_
       refine RN.m rfl ?_
       refine RN.m rfl ?_
       refine RN.m rfl ?_
       refine RN.p rfl (by first | exact (p_indexAddr1N rfl Tryz.underlying55 ts_9 rfl rfl (by omega)) | exact (p_indexAddr1 rfl Tryz.underlying55 ts_9 rfl rfl (by omega))) ?_
       refine RN.u rfl (QRun.ent ((Ent.pull_drop (is := [4]) rfl).trans (Ent.cons (old_cellsAt (hat2 (ix k) hid)) (Ent.refl _))) (q_load1C (k := 0) rfl sc_9 rfl (i := 0) rfl rfl)) ?_
       refine RN.m rfl ?_
       refine RN.p rfl (by first | exact (p_indexN_s rfl Tryz.underlying9 rfl rfl (List.getElem?_eq_getElem hjd)) | exact (p_index_s rfl Tryz.underlying9 rfl rfl (List.getElem?_eq_getElem hjd))) ?_
       refine RN.p rfl (by first | exact (p_indexAddr1N rfl Tryz.underlying57 ts_5 rfl rfl (by omega)) | exact (p_indexAddr1 rfl Tryz.underlying57 ts_5 rfl rfl (by omega))) ?_
       refine RN.EN rfl rfl rfl (by first | exact (e_store rfl ts_5 rfl (by conv => lhs; whnf) (by first | rfl | assumption) (i := 0) rfl (by simp; omega)) | exact (e_store rfl ts_5 rfl (by conv => lhs; whnf) (by first | rfl | assumption) (i := 1) rfl (by simp; omega)) | exact (e_store rfl ts_5 rfl (by conv => lhs; whnf) (by first | rfl | assumption) (i := 2) rfl (by simp; omega)) | exact (e_store rfl ts_5 rfl (by conv => lhs; whnf) (by first | rfl | assumption) (i := 3) rfl (by simp; omega)) | exact (e_store rfl ts_5 rfl (by conv => lhs; whnf) (by first | rfl | assumption) (i := 4) rfl (by simp; omega)) | exact (e_store rfl ts_5 rfl (by conv => lhs; whnf) (by first | rfl | assumption) (i := 5) rfl (by simp; omega)) | exact (e_store rfl ts_5 rfl (by conv => lhs; whnf) (by first | rfl | assumption) (i := 6) rfl (by simp; omega))) ?_
       rintro _ _ ⟨rfl, rfl⟩
       refine RN.nil ?_
       refine hK44 _ _ ?_
       refine T.region (l := [0, 1, 2]) rfl ?_
       refine RN.m rfl ?_
       refine RN.p rfl (by first | exact (p_addN (b := 1) rfl rfl rfl (by omega)) | exact (p_add rfl rfl rfl (by omega))) ?_
       refine RN.a rfl ?_
       refine RN.nil ?_
       refine ⟨j + 1, ⟨by omega, by rw [hdk]; omega⟩, (by omega), (LiveIs.cons rfl (LiveIs.cons rfl (LiveIs.cons rfl (LiveIs.cons rfl (LiveIs.cons rfl (LiveIs.cons rfl (LiveIs.cons rfl (LiveIs.cons rfl (LiveIs.cons rfl (LiveIs.cons rfl (LiveIs.cons rfl LiveIs.nil))))))))))), (Ent.rowEq (by simp only [hdk]; exact pad_set hjd hjn2))⟩
      ·
       have hx := pad_all (data := (datL ds (ix k))) (i := j) (m := (nz k * 32)) (.inr (by rw [hdk] at hjd0 ⊢; omega)) hjn hjd0
       refine T.exit ?_
       refine Post.seq_x ?_
       refine Post.seq_x ?_
       refine Post.block_hit ?_
       refine ⟨(), trivial, (LiveIs.cons rfl (LiveIs.cons rfl (LiveIs.cons rfl (LiveIs.cons rfl (LiveIs.cons rfl (LiveIs.cons rfl (LiveIs.cons rfl (LiveIs.cons rfl (LiveIs.cons rfl (LiveIs.cons rfl LiveIs.nil)))))))))), (Ent.rowEq hx)⟩
     ·
      have hx := pad_all (data := (datL ds (ix k))) (i := j) (m := (nz k * 32)) (.inl (by omega)) hjn hjd0
      refine RN.no0 rfl ?_
      refine RN.no0 rfl ?_
      refine RN.no0 rfl ?_
      refine RN.no0 rfl ?_
      refine RN.no0 rfl ?_
      refine RN.no0 rfl ?_
      refine RN.no0 rfl ?_
      refine RN.pf rfl ?_
      refine RN.nil ?_
      refine hK43 _ _ ?_
      refine T.cond_f rfl ?_
      refine T.exit ?_
      refine Post.seq_x ?_
      refine Post.seq_x ?_
      refine Post.block_hit ?_
      refine ⟨(), trivial, (LiveIs.cons rfl (LiveIs.cons rfl (LiveIs.cons rfl (LiveIs.cons rfl (LiveIs.cons rfl (LiveIs.cons rfl (LiveIs.cons rfl (LiveIs.cons rfl (LiveIs.cons rfl (LiveIs.cons rfl LiveIs.nil)))))))))), (Ent.rowEq hx)⟩
    ·
     have hdk : datL ds (ix k) = [] := datL_no (by omega)
     have hx := pad_all (data := (datL ds (ix k))) (i := j) (m := (nz k * 32)) (.inr (by rw [hdk] at hjd0 ⊢; simp at hjd0 ⊢; exact hjd0)) hjn hjd0
     refine RN.no0 rfl ?_
     refine RN.no0 rfl ?_
     refine RN.no0 rfl ?_
     refine RN.no0 rfl ?_
     refine RN.pf rfl ?_
     refine RN.m rfl ?_
     refine RN.no0 rfl ?_
     refine RN.no0 rfl ?_
     refine RN.no0 rfl ?_
     refine RN.no0 rfl ?_
     refine RN.no0 rfl ?_
     refine RN.no0 rfl ?_
     refine RN.no0 rfl ?_
     refine RN.pf rfl ?_
     refine RN.nil ?_
     refine hK43 _ _ ?_
     refine T.cond_f rfl ?_
     refine T.exit ?_
     refine Post.seq_x ?_
     refine Post.seq_x ?_
     refine Post.block_hit ?_
     refine ⟨(), trivial, (LiveIs.cons rfl (LiveIs.cons rfl (LiveIs.cons rfl (LiveIs.cons rfl (LiveIs.cons rfl (LiveIs.cons rfl (LiveIs.cons rfl (LiveIs.cons rfl (LiveIs.cons rfl (LiveIs.cons rfl LiveIs.nil)))))))))), (Ent.rowEq hx)⟩
   ·
    rintro ⟨⟩ e39 -
    refine T.seq fun K45 hK45 => ?_
    refine T.region (l := [0, 1, 2, 3, 4, 5, 6, 7, 8]) rfl ?_
    refine RN.m rfl ?_
    refine RN.m rfl ?_
    refine RN.m rfl ?_
    have hrea := hw2.rea hpos hk
    rw [if_neg (Nat.lt_irrefl _)] at hrea
    refine RN.C [2, 2] rfl rfl rfl rfl (c_call rfl rfl) (VRead_spec s a sz es t (vnT (ix k)) 0 (nz k : Nat) hw2.v (by omega) hw2.tl) rfl ?_
    rintro _ _ ⟨rfl, rfl⟩
    rw [hrea]
    refine RN.m rfl ?_
    refine RN.p rfl (p_extract rfl rfl rfl) ?_
    refine RN.p rfl (p_extract rfl rfl rfl) ?_
    refine RN.a rfl ?_
    refine RN.a rfl ?_
    refine RN.nil ?_
    refine hK45 _ _ ?_
    refine T.seq fun K46 hK46 => ?_
    refine T.region (l := [0, 1, 2, 3, 4, 5]) rfl ?_
    refine RN.m rfl ?_
    refine RN.m rfl ?_
    refine RN.m rfl ?_
    refine RN.p rfl (p_sadd rfl rfl rfl (Nat.le_of_ble_eq_true rfl)) ?_
    refine RN.C [0, 0] rfl rfl rfl rfl (c_call rfl rfl) (Rename_spec s a sz es t (vnT (ix k)) (wnT (ix k)) hw2.v (by omega) hw2.tl) rfl ?_
    rintro _ _ ⟨rfl, rfl⟩
    refine RN.a rfl ?_
    refine RN.nil ?_
    refine hK46 _ _ ?_
    refine T.seq fun K47 hK47 => ?_
    refine T.region (l := [0, 1, 2, 3, 4, 5, 6, 7, 8, 9]) rfl ?_
    refine RN.m rfl ?_
    refine RN.m rfl ?_
    refine RN.p rfl (p_sadd rfl rfl rfl (Nat.le_of_ble_eq_true rfl)) ?_
    refine RN.m rfl ?_
    obtain ⟨hren, hw3⟩ := hw2.ren hpos hk
    have hrea2 := hw3.rea hpos hk
    rw [if_pos (Nat.lt_succ_self _)] at hrea2
    refine RN.C [0, 0] rfl rfl rfl rfl (c_call rfl rfl) (VRead_spec s a sz (renV es t (vnT (ix k)) (wnT (ix k))).2.1 (renV es t (vnT (ix k)) (wnT (ix k))).2.2 (wnT (ix k)) 0 (nz k : Nat) hw3.v (by omega) hw3.tl) rfl ?_
    rintro _ _ ⟨rfl, rfl⟩
    rw [hrea2]
    refine RN.m rfl ?_
    refine RN.p rfl (p_extract rfl rfl rfl) ?_
    refine RN.p rfl (p_extract rfl rfl rfl) ?_
    refine RN.a rfl ?_
    refine RN.a rfl ?_
    refine RN.nil ?_
    refine hK47 _ _ ?_
    refine T.seq fun K48 hK48 => ?_
    refine T.region (l := [0, 1, 2, 3, 4, 5, 6, 7, 8, 9, 10, 11, 12, 13, 14, 15, 16, 17, 18, 19, 20, 21]) rfl ?_
    refine RN.m rfl ?_
    refine RN.p rfl (p_neq rfl rfl rfl) ?_
    refine RN.m rfl ?_
    refine RN.known 196 rfl (show _ = Value.bool false from congrArg Value.bool (decide_eq_false (not_not_intro rfl))) ?_
    refine RN.m rfl ?_
    refine RN.p rfl (p_neq rfl rfl rfl) ?_
    refine RN.pf rfl ?_
    refine RN.m rfl ?_
    refine RN.known 200 rfl (show _ = Value.bool false from congrArg Value.bool (decide_eq_false (not_not_intro hren))) ?_
    refine RN.m rfl ?_
    refine RN.p rfl (p_neq rfl rfl rfl) ?_
    refine RN.pf rfl ?_
    refine RN.m rfl ?_
    refine RN.known 204 rfl (show _ = Value.bool false from congrArg Value.bool (decide_eq_false (not_not_intro rfl))) ?_
    refine RN.m rfl ?_
    refine RN.m rfl ?_
    refine RN.u rfl (q_bytes_str rfl Tryz.underlying57 Tryz.underlying5 Tryz.underlying9 rfl (i := 2) rfl (l := padN (nz k * 32) (datL ds (ix k))) (by simp [padN_length]) (by rw [List.drop_zero, List.take_of_length_le (by simp [padN_length])])) ?_
    refine RN.p rfl (p_sneq rfl rfl rfl) ?_
    refine RN.pf rfl ?_
    refine RN.m rfl ?_
    refine RN.known 210 rfl (show _ = Value.bool false from congrArg Value.bool (decide_eq_false (not_not_intro rfl))) ?_
    refine RN.m rfl ?_
    refine RN.m rfl ?_
    refine RN.u rfl (q_bytes_str rfl Tryz.underlying57 Tryz.underlying5 Tryz.underlying9 rfl (i := 2) rfl (l := padN (nz k * 32) (datL ds (ix k))) (by simp [padN_length]) (by rw [List.drop_zero, List.take_of_length_le (by simp [padN_length])])) ?_
    refine RN.p rfl (p_sneq rfl rfl rfl) ?_
    refine RN.pf rfl ?_
    refine RN.nil ?_
    refine hK48 _ _ ?_
    refine T.known 215 rfl (show _ = Value.bool false from congrArg Value.bool (decide_eq_false (not_not_intro rfl))) ?_
    refine T.cond_f rfl ?_
    refine T.skip ?_
    refine hK34 _ _ ?_
    refine T.region (l := [0, 1, 2]) rfl ?_
    refine RN.m rfl ?_
    refine RN.p rfl (by first | exact (p_addN (b := 1) rfl rfl rfl (by omega)) | exact (p_add rfl rfl rfl (by omega))) ?_
    refine RN.a rfl ?_
    refine RN.nil ?_
    refine ⟨(k + 1, (renV es t (vnT (ix k)) (wnT (ix k))).2.1, (renV es t (vnT (ix k)) (wnT (ix k))).2.2), ⟨by omega, hw3⟩, (by simp; omega), (LiveIs.cons rfl (LiveIs.cons rfl (LiveIs.cons rfl (LiveIs.cons rfl (LiveIs.cons rfl (LiveIs.cons rfl LiveIs.nil)))))), ((Ent.pull_drop (is := [3, 0, 0, 1, 1]) rfl).trans (Ent.cons (vec_of_row (ixs_length _ _) hw1 hw2a hw3a) (Ent.refl _)))⟩
  ·
   obtain rfl : m = k := by omega
   refine T.exit ?_
   refine Post.seq_x ?_
   refine Post.seq_x ?_
   refine Post.block_hit ?_
   refine hK29 _ _ ?_
   refine T.seq fun K49 hK49 => ?_
   refine T.seq fun K50 hK50 => ?_
   refine T.region (l := [0]) rfl ?_
   refine RN.a rfl ?_
   refine RN.nil ?_
   refine hK50 _ _ ?_
   refine T.block ?_
   refine T.loop (G := Nat × List VE × List UInt8) (fun ⟨k, es, t⟩ => k ≤ m ∧ W3 sz m ix nz k es t) (fun ⟨k, es, t⟩ => [(0, intV sz), (9, ptr s 0), (11, v), (26, intV k)]) (fun ⟨k, es, t⟩ => [vec 3 1 v m (ixs ix m), row s 72 (stC 24 a sz es), arrA 63 57 5 a t, old w0, Fr]) (fun ⟨k, es, t⟩ => m - k) (0, es, t) ⟨Nat.zero_le _, hw2.to3 hpos⟩ (LiveIs.cons rfl (LiveIs.cons rfl (LiveIs.cons rfl (LiveIs.cons rfl LiveIs.nil)))) (Ent.refl _) ?_
   rintro ⟨k, es, t⟩ e51 ⟨hkm, hw3⟩
   dsimp only
   refine T.seq fun K52 hK52 => ?_
   refine T.seq fun K53 hK53 => ?_
   refine T.region (l := [0, 1, 2, 3]) rfl ?_
   refine RN.m rfl ?_
   refine RN.m rfl ?_
   refine RN.u rfl (q_len_vec rfl Tryz.underlying54 rfl (i := 0) rfl) ?_
   refine RN.p rfl (p_lss rfl rfl rfl) ?_
   refine RN.nil ?_
   refine hK53 _ _ ?_
   first | refine T.cond_dec rfl (fun h219 => ?_) (fun h219 => ?_) | refine T.cond rfl (fun h219 => ?_) (fun h219 => ?_)
   ·
    have hk : k < m := by omega
    have hix6 := hw3.ord k hk
    have hm6 := hw3.m6
    have hdel := (hw3.del hk).1
    refine T.skip ?_
    refine hK52 _ _ ?_
    refine T.seq fun K54 hK54 => ?_
    refine T.block ?_
    refine T.seq fun K55 hK55 => ?_
    refine T.openVec 0 rfl (by omega) ?_
    rintro bw capw restw rfl hw1 hw2a hw3a
    refine T.region (l := [0, 1, 2, 3, 4, 5, 6, 7, 8, 9, 10, 11]) rfl ?_
    refine RN.m rfl ?_
    refine RN.m rfl ?_
    refine RN.m rfl ?_
    refine RN.p rfl (by first | exact (p_indexAddr1N rfl Tryz.underlying54 ts_3 rfl rfl (by omega)) | exact (p_indexAddr1 rfl Tryz.underlying54 ts_3 rfl rfl (by omega))) ?_
    refine RN.u rfl (q_load rfl sc_3 rfl (i := 0) rfl (ixs_get hk)) ?_
    refine RN.p rfl (by first | exact (p_addN (a := 48) rfl rfl rfl (by omega)) | exact (p_add rfl rfl rfl (by omega))) ?_
    refine RN.p rfl (p_convB rfl Tryz.underlying3 Tryz.underlying5 rfl) ?_
    refine RN.E rfl rfl rfl rfl (e_buildSlice1 rfl Tryz.underlying57 ti_5 rfl (by conv => lhs; whnf) rfl) ?_
    rintro _ _ ⟨b229, rfl, rfl⟩
    refine RN.u rfl (q_bytes_str rfl Tryz.underlying57 Tryz.underlying5 Tryz.underlying9 rfl (i := 0) rfl (l := [UInt8.ofNat (48 + ix k)]) (by show 0 + 1 ≤ 1; omega) rfl) ?_
    refine RN.p rfl (p_sadd rfl rfl rfl (Nat.le_of_ble_eq_true rfl)) ?_
    refine RN.C [2, 2] rfl rfl rfl rfl (c_call rfl rfl) (Delete_spec s a sz es t (wnT (ix k)) hw3.v (by omega) hw3.tl) rfl ?_
    rintro _ _ ⟨rfl, rfl⟩
    refine RN.p rfl (p_neq rfl rfl rfl) ?_
    refine RN.nil ?_
    refine hK55 _ _ ?_
    refine T.known 233 rfl (show _ = Value.bool false from congrArg Value.bool (decide_eq_false (not_not_intro hdel))) ?_
    refine T.cond_f rfl ?_
    refine T.skip ?_
    refine hK54 _ _ ?_
    refine T.region (l := [0, 1, 2]) rfl ?_
    refine RN.m rfl ?_
    refine RN.p rfl (by first | exact (p_addN (b := 1) rfl rfl rfl (by omega)) | exact (p_add rfl rfl rfl (by omega))) ?_
    refine RN.a rfl ?_
    refine RN.nil ?_
    refine ⟨(k + 1, (delV es t (wnT (ix k))).2.1, (delV es t (wnT (ix k))).2.2), ⟨by omega, (hw3.del hk).2⟩, (by simp; omega), (LiveIs.cons rfl (LiveIs.cons rfl (LiveIs.cons rfl (LiveIs.cons rfl LiveIs.nil)))), ((Ent.pull_drop (is := [3, 0, 0, 1, 1]) rfl).trans (Ent.cons (vec_of_row (ixs_length _ _) hw1 hw2a hw3a) (Ent.refl _)))⟩
   ·
    obtain rfl : m = k := by omega
    obtain ⟨hz1, hz2⟩ := hw3.fin
    refine T.exit ?_
    refine Post.seq_x ?_
    refine Post.seq_x ?_
    refine Post.block_hit ?_
    refine hK49 _ _ ?_
    refine T.seq fun K56 hK56 => ?_
    refine T.region (l := [0, 1, 2, 3, 4, 5, 6, 7, 8, 9, 10, 11]) rfl ?_
    refine RN.m rfl ?_
    refine RN.C [1] rfl rfl rfl rfl (c_call rfl rfl) (Free_spec s a sz es hw3.v (by omega)) rfl ?_
    rintro _ _ ⟨rfl, rfl⟩
    refine RN.m rfl ?_
    refine RN.p rfl (by first | exact (p_subN (b := 8) rfl rfl rfl (by omega)) | exact (p_sub rfl rfl rfl (by omega))) ?_
    refine RN.p rfl (p_eql rfl rfl rfl) ?_
    refine RN.m rfl ?_
    refine RN.known 239 rfl (show _ = Value.bool true from congrArg Value.bool (decide_eq_true (by omega))) ?_
    refine RN.m rfl ?_
    refine RN.C [0] rfl rfl rfl rfl (c_call rfl rfl) (Volumes_spec s a sz es hw3.lay.len) rfl ?_
    rintro v241 _ ⟨hv241, rfl⟩
    refine RN.u rfl (q_len_vec rfl Tryz.underlying45 rfl (i := 0) rfl) ?_
    refine RN.p rfl (p_eql rfl rfl rfl) ?_
    refine RN.pt rfl ?_
    refine RN.a rfl ?_
    refine RN.nil ?_
    refine hK56 _ _ ?_
    refine T.ret ?_
    refine bodyQ_ret [old w0] (RetRun.tmp RetRun.nil) ⟨congrArg Value.bool (decide_eq_true (by rw [hz2]; rfl)), rfl⟩ (Ent.pull_drop (is := [4, 4]) rfl)

end Go.Proofs.YtbbgajjonodlfaaGreat
namespace Go.Proofs.YtbbgajjonodlfaaGreat.volWhole
open Go Go.ChangeShapes Go.WideShapes Go.ChangeAt Go.RowKit Go.Sl Go.Mo
theorem str_strV (s : ByteArray) : Value.string s = strV s.data.toList := by
  cases s with
  | mk d => show Value.string ⟨d⟩ = Value.string ⟨d.toList.toArray⟩; simp
theorem ints_of {H : Type} {enc : TypeId × Value → H} {W : World} {sp : Nat → Bool} {held : Bool} {v : Value} {d : DataW H} {p : List MemPlace} (hv : ∃ a n c, v = .slice a n c) (h : DataW.Trod enc Tryz.prog W 0 sp held 54 v d p) :
    ∃ (q : Option Addr) (cap : Nat) (ls : List Int), v = .slice q ls.length cap ∧ (0 < ls.length → ∃ b off, q = some ⟨b, off, none⟩ ∧ ∀ i (hi : i < ls.length), At W b (off + i) [.int .i64 ls[i]]) := by
  obtain ⟨q, cap, l, rfl, _, hq, hl⟩ := open_cells Tryz.underlying54 (show Tryz.prog.cellsOf 3 = 1 by kernel_rfl) (by decide) hv h
  obtain ⟨ls, hlen, hr⟩ := pick_list (R := fun (c : List Value) (k : Int) => c = [.int .i64 k]) (l := l) (fun c hc => by
    obtain ⟨m, x, hx, _⟩ := hl c hc
    obtain ⟨n0, e0, _, _⟩ := DataW.trod_int Tryz.underlying3 (x := x) hx
    exact ⟨n0, e0⟩)
  refine ⟨q, cap, ls, by rw [hlen], fun h0 => ?_⟩
  obtain ⟨b, off, rfl, hat⟩ := hq (by omega)
  refine ⟨b, off, rfl, fun i hi => ?_⟩
  have := hat i (by omega)
  rwa [hr i (by omega) hi, Nat.mul_one] at this
theorem strs_of {H : Type} {enc : TypeId × Value → H} {W : World} {sp : Nat → Bool} {held : Bool} {v : Value} {d : DataW H} {p : List MemPlace} (hv : ∃ a n c, v = .slice a n c) (h : DataW.Trod enc Tryz.prog W 0 sp held 55 v d p) :
    ∃ (q : Option Addr) (cap : Nat) (ls : List (List UInt8)), v = .slice q ls.length cap ∧ (0 < ls.length → ∃ b off, q = some ⟨b, off, none⟩ ∧ ∀ i (hi : i < ls.length), At W b (off + i) [strV ls[i]]) := by
  obtain ⟨q, cap, l, rfl, _, hq, hl⟩ := open_cells Tryz.underlying55 (show Tryz.prog.cellsOf 9 = 1 by kernel_rfl) (by decide) hv h
  obtain ⟨ls, hlen, hr⟩ := pick_list (R := fun (c : List Value) (k : List UInt8) => c = [strV k]) (l := l) (fun c hc => by
    obtain ⟨m, x, hx, _⟩ := hl c hc
    obtain ⟨s, e0, _, _⟩ := DataW.trod_string Tryz.underlying9 (x := x) hx
    exact ⟨s.data.toList, by rw [e0, str_strV]⟩)
  refine ⟨q, cap, ls, by rw [hlen], fun h0 => ?_⟩
  obtain ⟨b, off, rfl, hat⟩ := hq (by omega)
  refine ⟨b, off, rfl, fun i hi => ?_⟩
  have := hat i (by omega)
  rwa [hr i (by omega) hi, Nat.mul_one] at this
theorem VolWhole_spec (w0 : World) (size : Int) (q1 q2 : Option Addr) (c1 c2 : Nat) (ls : List Int) (ds : List (List UInt8)) (hq1 : 0 < ls.length → ∃ b off, q1 = some ⟨b, off, none⟩ ∧ ∀ i (hi : i < ls.length), At w0 b (off + i) [.int .i64 ls[i]]) (hq2 : 0 < ds.length → ∃ b off, q2 = some ⟨b, off, none⟩ ∧ ∀ i (hi : i < ds.length), At w0 b (off + i) [strV ds[i]]) :
    Ctr Tryz.prog 5 [.int .i64 size, .slice q1 ls.length c1, .slice q2 ds.length c2] [old w0] (fun v Ps => v = .bool true ∧ Ps = [old w0]) := by
  by_cases h1 : size < 1 ∨ 512 < size
  · exact VolWhole_bad w0 size q1 q2 c1 c2 ls ds h1
  by_cases h2 : 6 < ls.length ∨ size < 9 ∨ 64 < size
  · exact VolWhole_skip w0 size q1 q2 c1 c2 ls ds (by omega) h2
  obtain ⟨sz, rfl⟩ := Int.eq_ofNat_of_zero_le (show 0 ≤ size by omega)
  exact VolWhole_run w0 sz q1 q2 c1 c2 ls ds (by omega) (by omega) hq1 hq2
theorem own : ownKnob Tryz.prog.godebug = none := by kernel_rfl
theorem laidOut : laidOutB Tryz.prog = true := by kernel_rfl
set_option maxRecDepth 100000 in
theorem lifted (os : Os) (started : os.Started) (H : Type) (enc : TypeId × Value → H) :
    ReturnsInHanded {} Tryz.checked os 5 .any (Rows.volWholeSpec.pre6 enc Tryz.prog Tryz.f5 Rows.volWholeRow.domain false) (Rows.volWholeSpec.post enc Tryz.prog Tryz.f5 false true false false) := by
  refine returnsInHanded_of_change_sized (C := Tryz.checked) own started (by kernel_rfl) Tryz.func5
    (ChangeSpec.witness6 (enc := enc) (C := Tryz.checked) false ⟨#[], #[.int .i64 0, .slice none 0 0, .slice none 0 0], []⟩ 8 (by kernel_rfl) (by kernel_rfl) (by kernel_rfl) (by kernel_rfl)) ?_
  intro W base args ds gs before hval0 hW hcnd hsz _
  have hval : ∀ (j : Nat) t v, Tryz.f5.params[j]? = some t → args[j]? = some v → Value.okWide Tryz.prog W .any base t v := hval0
  have hW' := hW
  obtain ⟨p, q, hA0, hV, rfl, hfz, hnd⟩ := hW
  have hA : DataW.TrodAll enc Tryz.prog W 0 (fun _ => true) true Tryz.f5.params.toList args.toList ds p := hA0
  rw [Tryz.params5] at hA hval
  obtain ⟨v0, vs0, d0, ds0, p0, q0, hargs, rfl, rfl, h0, r0⟩ := trodAll_cons hA
  obtain ⟨v1, vs1, d1, ds1, p1, q1, rfl, rfl, rfl, h1, r1⟩ := trodAll_cons r0
  obtain ⟨v2, vs2, d2, ds2, p2, q2, rfl, rfl, rfl, h2, r2⟩ := trodAll_cons r1
  obtain ⟨rfl, rfl, rfl⟩ := trodAll_nil r2
  obtain rfl : args = #[v0, v1, v2] := by cases args; simp_all
  obtain ⟨rfl, rfl⟩ := trodVars_none hV
  obtain ⟨a0, rfl, _, _, _⟩ := open_int Tryz.underlying3 (hval 0 3 v0 rfl rfl) h0
  obtain ⟨qa, ca, ls, rfl, ha⟩ := ints_of (okWide_slice Tryz.underlying54 (hval 1 54 v1 rfl rfl)) h1
  obtain ⟨qb, cb, dl, rfl, hbq⟩ := strs_of (okWide_slice Tryz.underlying55 (hval 2 55 v2 rfl rfl)) h2
  refine (Ctr.calls1 W (VolWhole_spec W a0 qa qb ca cb ls dl ha hbq)).mono fun e W' ⟨he, hb⟩ => ?_
  subst he
  exact ⟨_, rfl, post_law hW' laidOut (by kernel_rfl) rfl rfl Tryz.underlying4 rfl rfl rfl hb⟩
theorem proved : Rows.VolWholeSaid :=
  OpenClaim.holds_of_wide 5 Tryz.f5 rfl rfl rfl rfl rfl rfl rfl ⟨rfl, rfl, rfl, rfl, rfl⟩ rfl rfl rfl rfl rfl (by kernel_rfl) Tryz.func5 (by kernel_rfl)
    (of_decide_eq_true (by kernel_rfl)) (by unfold Func.isWrapper; first | (rw [if_pos (by decide +kernel)]; kernel_rfl) | (rw [if_neg (by decide +kernel)]; exact ⟨rfl, rfl⟩))
    (fun os started H enc _ => lifted os started H enc)
#print axioms proved
end Go.Proofs.YtbbgajjonodlfaaGreat.volWhole
