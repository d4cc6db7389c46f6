/-
  What LeafJoins holds: streams cut, pages of any small kind. It proves nothing of the program by itself.
-/
import Derived.Test.YticfabhcfdmbjaaYtChg
import Derived.Test.YticfabhcfdmbjaaModelW
import Derived.Test.YticfabhcfdmbjaaSl15
import Derived.Test.YticfabhcfdmbjaaYtL6
set_option linter.unusedVariables false
set_option linter.unusedSimpArgs false
namespace Go.Proofs.Yticfabhcfdmbjaa
open Go Go.Sl Go.Mo
theorem lits_small {n : Int} (d : Nat) (h : 0 ≤ n ∧ n ≤ 3) : Try.prog.keyLits (d + 1) 3 [.int .i64 n] = some [.int .i64 n] := by
  unfold Program.keyLits
  rw [Try.underlying3]
  have : (Lit.int .i64 n).wf = true := by
    simp [Lit.wf, IntKind.min, IntKind.max, IntKind.signed, IntKind.bits]
    omega
  simp [this]
theorem plain_any {p : Pg} (hv : 0 ≤ p.kind ∧ p.kind ≤ 3) (hf : p.fit) (hq : U32 p.seq) : Plain Try.prog 54 p.cells := by
  obtain ⟨L, hL⟩ := plain_pay2 hf.ok.pay
  refine ⟨3, ?_⟩
  unfold Program.keyLits
  rw [Try.underlying54]
  have hc : Try.prog.cellsOf 54 = 39 := by kernel_rfl
  have c3 : Try.prog.cellsOf 3 = 1 := by kernel_rfl
  have c48 : Try.prog.cellsOf 48 = 1 := by kernel_rfl
  have c52 : Try.prog.cellsOf 52 = 32 := by kernel_rfl
  have hpl : (p.pay.map u8V).take 32 = p.pay.map u8V := List.take_of_length_le (by rw [List.length_map, hf.ok.pay]; exact Nat.le_refl _)
  refine ⟨[.int .i64 p.kind, .int .u32 p.lba, .int .u32 p.seq, .int .u32 p.epoch, .int .u32 p.group, .int .u32 p.index, .int .u32 p.total] ++ (L ++ []), ?_⟩
  simp only [hc, Pg.cells_length hf.ok.pay]
  rw [if_pos ⟨trivial, by decide +kernel⟩]
  simp only [Pg.cells, List.cons_append, List.nil_append, List.mapM_cons, List.mapM_nil, c3, c48, c52, List.drop_zero, List.drop_succ_cons, List.take_succ_cons, List.take_zero, lits_small 1 hv, lits_u32 1 hf.ok.lba, lits_u32 1 hq, lits_u32 1 hf.epoch, lits_u32 1 hf.group, lits_u32 1 hf.ok.index, lits_u32 1 hf.ok.total, hpl, hL]
  rfl
end Go.Proofs.Yticfabhcfdmbjaa
namespace Go.Mo
open Go Go.Sl
/-- A stream's pages, and the slice that holds them. -/
structure Cs where
  v : Value
  ps : List Pg
def Cs.own (c : Cs) : Assn := vec 54 39 c.v c.ps.length (pgs c.ps)
def Sm.cut (s : Sm) : List Pg := cutL s.key.kind s.key.epoch s.key.group s.bytes (pagesN s.bytes.length)
theorem Sm.cut_length (s : Sm) : s.cut.length = pagesN s.bytes.length := cutL_length ..
theorem cs_view {cs : List Cs} {i : Nat} (hi : i < cs.length) : Ent (sep (cs.map Cs.own)) (view 39 cs[i].v cs[i].ps.length (pgs cs[i].ps)) := by
  have h1 : nth (cs.map Cs.own) i = some (Cs.own cs[i]) := by rw [nth_map, nth_get hi]; rfl
  have h2 : Ent (sep (cs.map Cs.own)) (Cs.own cs[i]) := (Ent.perm (perm_nth h1)).trans (Ent.head _ _)
  exact h2.trans view_of_vec
theorem cs_push {cs : List Cs} {s : Cs} {R : List Assn} : Ent (sep (s.own :: sep (cs.map Cs.own) :: R)) (sep (sep ((cs ++ [s]).map Cs.own) :: R)) := by
  refine (Ent.cons (Ent.refl _) (Ent.flat _ _)).trans ?_
  rw [List.map_append]
  refine (Ent.perm (L := s.own :: (cs.map Cs.own ++ R)) (M := cs.map Cs.own ++ [s].map Cs.own ++ R) ?_).trans (Ent.unflat _ _)
  have := (List.perm_append_comm (l₁ := [s.own]) (l₂ := cs.map Cs.own)).append_right R
  simpa using this
theorem cs_at {ls : List Sm} {cs : List Cs} (h : cs.map Cs.ps = ls.map Sm.cut) {i : Nat} (hl : i < ls.length) (hc : i < cs.length) : cs[i].ps = ls[i].cut := by
  have h1 : (cs.map Cs.ps)[i]? = (ls.map Sm.cut)[i]? := by rw [h]
  rw [List.getElem?_map, List.getElem?_map, List.getElem?_eq_getElem hc, List.getElem?_eq_getElem hl] at h1
  simpa using h1
theorem cs_take {ls : List Sm} {cs : List Cs} {v : Value} {i : Nat} (hi : i < ls.length) (h : cs.map Cs.ps = (ls.take i).map Sm.cut) : (cs ++ [Cs.mk v ls[i].cut]).map Cs.ps = (ls.take (i + 1)).map Sm.cut := by
  rw [List.take_succ_eq_append_getElem hi, List.map_append, List.map_append, h]
  rfl
theorem cs_all {cs : List Cs} {c : Cs} (h : ∀ x ∈ cs, x.v.oneCell' = true) (hc : c.v.oneCell' = true) : ∀ x ∈ cs ++ [c], x.v.oneCell' = true := fun x hx => by
  rcases List.mem_append.1 hx with h1 | h1
  · exact h x h1
  · rw [List.mem_singleton.1 h1]; exact hc
theorem vs_at {cs : List Cs} {rest : List Value} {i : Nat} (hi : i < cs.length) : (cs.map Cs.v ++ rest)[0 + i]? = some cs[i].v := by
  rw [Nat.zero_add, List.getElem?_append_left (by rw [List.length_map]; exact hi), List.getElem?_map, List.getElem?_eq_getElem hi]
  rfl
/-- The page behind. -/
def P9 : Pg := { kind := 9, lba := 0, seq := 0, epoch := 0, group := 0, index := 0, total := 0, pay := List.replicate 32 0 }
theorem pgs_get9 {l : List Pg} {q : Pg} (h : ∀ p ∈ l, p.pay.length = 32) {i : Nat} (hi : i < l.length) : ((pgs (l ++ [q])).drop (i * 39)).take 39 = l[i].cells := by
  have e := pgs_get' (rest := q.cells) h hi
  rw [← pgs_push, Nat.zero_add] at e
  exact e
theorem pgs_len9 {l : List Pg} {q : Pg} (h : ∀ p ∈ l, p.pay.length = 32) (hq : q.pay.length = 32) : (pgs (l ++ [q])).length = l.length * 39 + 39 := by
  rw [pgs_push, List.length_append, pgs_length h, Pg.cells_length hq]
theorem vec_pre {el n m : Nat} {v : Value} {pg : List Pg} {q : Pg} (hp : ∀ p ∈ pg, p.pay.length = 32) (hn : n = pg.length) (hm : m = pg.length + 1) : Ent (vec el 39 v m (pgs (pg ++ [q]))) (view 39 (subSl 39 v 0 n) n (pgs pg)) := by
  subst hn hm
  have e := pgs_part (rest := q.cells) hp (a := 0) (n := pg.length) (by omega)
  rw [← pgs_push, List.drop_zero (l := pg), List.take_of_length_le (l := pg) (Nat.le_refl _)] at e
  have h := view_of_vec.trans (view_sub (sz := 39) (n := pg.length + 1) (l := 0) (h := pg.length) (v := v) (vs := pgs (pg ++ [q])) (Nat.zero_le _) (by omega)) (A := vec el 39 v (pg.length + 1) (pgs (pg ++ [q])))
  rw [Nat.sub_zero, e] at h
  exact h
end Go.Mo
namespace Go.Proofs.Yticfabhcfdmbjaa
open Go Go.Sl Go.Proofs
set_option maxRecDepth 20000
open Go.Mo
theorem LeafJoins_walk (haw : Ctr Try.prog 23 [] [] (fun v Ps => v = .bool true ∧ Ps = [])) (A : Assn) (lv pv : Value) (ls : List Sm) (xs : List Pk) (hL : Ent A (view 4 lv ls.length ((ls.map Sm.cells).flatten))) (hP : Ent A (view 4 pv xs.length ((xs.map Pk.cells).flatten))) (hF : ∀ s ∈ ls, s.fit A) : Ctr Try.prog 8 [lv, pv] [A] (fun v Ps => v = .bool true ∧ Ps = [A]) := by
  refine Ctr.of_body Try.func8 rfl (by kernel_rfl) Try.ntmps8 rfl rfl (fun Fr => ?_)
  refine T.peek (A := view 4 lv ls.length ((ls.map Sm.cells).flatten)) ((Ent.head _ _).trans hL) view_form ?_
  rintro ⟨q, cap, rfl, hcap, hcm, hqf⟩
  refine T.peek (A := view 4 pv xs.length ((xs.map Pk.cells).flatten)) ((Ent.head _ _).trans hP) view_form ?_
  rintro ⟨q2, cap2, rfl, hcap2, hcm2, hqf2⟩
  refine T.seq fun K1 hK1 => ?_
  refine T.region (l := [0]) rfl ?_
  refine RN.qq rfl rfl rfl rfl (PRun.q (p_assign rfl (by conv => lhs; whnf))) ?_
  refine RN.nil ?_
  refine hK1 _ _ ?_
  refine T.seq fun K2 hK2 => ?_
  refine T.seq fun K3 hK3 => ?_
  refine T.region (l := [0, 1]) rfl ?_
  refine RN.C [] rfl rfl rfl rfl (c_call rfl rfl) (haw) rfl ?_
  rintro _ _ ⟨rfl, rfl⟩
  refine RN.qq rfl rfl rfl rfl (PRun.q (by first | exact (p_not_dec rfl rfl) | exact (p_not rfl rfl))) ?_
  refine RN.nil ?_
  refine hK3 _ _ ?_
  refine T.known 16 rfl (show _ = Value.bool false from rfl) ?_
  refine T.cond_f rfl ?_
  refine T.skip ?_
  refine hK2 _ _ ?_
  refine T.cut (G := Unit) (fun ⟨⟩ => ls.length ≤ 8 ∧ xs.length ≤ 60) (fun ⟨⟩ => [(0, .slice q ls.length cap), (1, .slice q2 xs.length cap2)]) (fun ⟨⟩ => [A, Fr]) ?_ ?_
  ·
    refine T.seq fun K5 hK5 => ?_
    refine T.region (l := [0, 1, 2, 3, 4, 5, 6, 7]) rfl ?_
    refine RN.qq rfl rfl rfl rfl (PRun.q (p_move rfl (by conv => lhs; whnf))) ?_
    refine RN.qq rfl rfl rfl rfl (PRun.q (p_len rfl Try.underlying58 rfl)) ?_
    refine RN.qq rfl rfl rfl rfl (PRun.q (p_gtr rfl rfl rfl)) ?_
    refine RN.qq rfl rfl rfl rfl (PRun.q (p_move rfl (by conv => lhs; whnf))) ?_
    first | refine RN.split_dec 20 rfl (fun h20 => ?_) (fun h20 => ?_) | refine RN.split 20 rfl (fun h20 => ?_) (fun h20 => ?_)
    ·
      refine RN.O rfl rfl rfl rfl ?_
      refine RN.O rfl rfl rfl rfl ?_
      refine RN.O rfl rfl rfl rfl ?_
      refine RN.qq rfl rfl rfl rfl (PRun.q (p_pick_t rfl rfl (by conv => lhs; whnf))) ?_
      refine RN.nil ?_
      refine hK5 _ _ ?_
      refine T.cond_t rfl ?_
      refine T.seq fun K6 hK6 => ?_
      refine T.region (l := [0]) rfl ?_
      refine RN.qq rfl rfl rfl rfl (PRun.q (p_assign rfl (by conv => lhs; whnf))) ?_
      refine RN.nil ?_
      refine hK6 _ _ ?_
      refine T.ret ?_
      refine Post.seq_r ?_
      refine bodyQ_ret [A] (RetRun.tmp RetRun.nil) ⟨rfl, rfl⟩ (Ent.refl _)
    ·
      refine RN.qq rfl rfl rfl rfl (PRun.q (p_move rfl (by conv => lhs; whnf))) ?_
      refine RN.qq rfl rfl rfl rfl (PRun.q (p_len rfl Try.underlying62 rfl)) ?_
      refine RN.qq rfl rfl rfl rfl (PRun.q (p_gtr rfl rfl rfl)) ?_
      refine RN.qq rfl rfl rfl rfl (PRun.q (p_pick_f rfl rfl (by conv => lhs; whnf))) ?_
      refine RN.nil ?_
      refine hK5 _ _ ?_
      first | refine T.cond_dec rfl (fun h24 => ?_) (fun h24 => ?_) | refine T.cond rfl (fun h24 => ?_) (fun h24 => ?_)
      ·
        refine T.seq fun K7 hK7 => ?_
        refine T.region (l := [0]) rfl ?_
        refine RN.qq rfl rfl rfl rfl (PRun.q (p_assign rfl (by conv => lhs; whnf))) ?_
        refine RN.nil ?_
        refine hK7 _ _ ?_
        refine T.ret ?_
        refine Post.seq_r ?_
        refine bodyQ_ret [A] (RetRun.tmp RetRun.nil) ⟨rfl, rfl⟩ (Ent.refl _)
      ·
        refine T.skip ?_
        refine ⟨(), ⟨by omega, by omega⟩, (LiveIs.cons rfl (LiveIs.cons rfl LiveIs.nil)), Ent.refl _⟩
  ·
    rintro ⟨⟩ e4 ⟨hl8, hx60⟩
    refine T.seq fun K8 hK8 => ?_
    refine T.region (l := [0]) rfl ?_
    refine RN.qq rfl rfl rfl rfl (PRun.q (p_assign rfl (by conv => lhs; whnf))) ?_
    refine RN.nil ?_
    refine hK8 _ _ ?_
    refine T.seq fun K9 hK9 => ?_
    refine T.seq fun K10 hK10 => ?_
    refine T.ent ((Ent.vec_nil' (el := 45) (sz := 1)).trans (Ent.cons (Ent.refl _) (Ent.unflat [] _))) ?_
    refine T.region (l := [0]) rfl ?_
    refine RN.qq rfl rfl rfl rfl (PRun.q (p_assign rfl (by conv => lhs; whnf))) ?_
    refine RN.nil ?_
    refine hK10 _ _ ?_
    refine T.block ?_
    refine T.loop (G := Nat × List Cs × Value) (fun ⟨i, cs, v5⟩ => i ≤ ls.length ∧ cs.length = i ∧ cs.map Cs.ps = (ls.take i).map Sm.cut ∧ v5.oneCell' = true ∧ (∀ c ∈ cs, c.v.oneCell' = true) ∧ ∀ s ∈ ls.take i, (s.key.kind = 2 ∨ s.key.kind = 3) ∧ s.bytes.length ≤ 300) (fun ⟨i, cs, v5⟩ => [(0, .slice q ls.length cap), (1, .slice q2 xs.length cap2), (5, v5), (6, intV i)]) (fun ⟨i, cs, v5⟩ => [vec 45 1 v5 cs.length (cs.map Cs.v), sep (cs.map Cs.own), A, Fr]) (fun ⟨i, cs, v5⟩ => ls.length - i) (0, [], .slice none 0 0) ⟨Nat.zero_le _, rfl, rfl, rfl, (fun c hc => by cases hc), (fun s hs => by simp at hs)⟩ (LiveIs.cons rfl (LiveIs.cons rfl (LiveIs.cons rfl (LiveIs.cons rfl LiveIs.nil)))) (Ent.refl _) ?_
    rintro ⟨i, cs, v5⟩ e11 ⟨hil, hcl, hcs, hv5, hone5, hks⟩
    dsimp only
    refine T.seq fun K12 hK12 => ?_
    refine T.seq fun K13 hK13 => ?_
    refine T.region (l := [0, 1, 2, 3]) rfl ?_
    refine RN.qq rfl rfl rfl rfl (PRun.q (p_move rfl (by conv => lhs; whnf))) ?_
    refine RN.qq rfl rfl rfl rfl (PRun.q (p_move rfl (by conv => lhs; whnf))) ?_
    refine RN.qq rfl rfl rfl rfl (PRun.q (p_len rfl Try.underlying58 rfl)) ?_
    refine RN.qq rfl rfl rfl rfl (PRun.q (p_lss rfl rfl rfl)) ?_
    refine RN.nil ?_
    refine hK13 _ _ ?_
    first | refine T.cond_dec rfl (fun h28 => ?_) (fun h28 => ?_) | refine T.cond rfl (fun h28 => ?_) (fun h28 => ?_)
    ·
      have hi : i < ls.length := by omega
      obtain ⟨lb, lo, rfl⟩ := hqf (by omega)
      have hsf := hF _ (List.getElem_mem hi)
      refine T.skip ?_
      refine hK12 _ _ ?_
      refine T.seq fun K14 hK14 => ?_
      refine T.block ?_
      refine T.cut (G := Unit) (fun ⟨⟩ => (ls[i].key.kind = 2 ∨ ls[i].key.kind = 3) ∧ ls[i].bytes.length ≤ 300) (fun ⟨⟩ => [(0, .slice (some ⟨lb, lo, none⟩) ls.length cap), (1, .slice q2 xs.length cap2), (5, v5), (6, intV i)]) (fun ⟨⟩ => [vec 45 1 v5 cs.length (cs.map Cs.v), sep (cs.map Cs.own), A, Fr]) ?_ ?_
      ·
        refine T.seq fun K16 hK16 => ?_
        refine T.region (l := [0, 1, 2, 3, 4, 5, 6, 7, 8, 9, 10, 11, 12, 13, 14, 15, 16, 17, 18, 19, 20, 21, 22]) rfl ?_
        refine RN.qq rfl rfl rfl rfl (PRun.q (p_move rfl (by conv => lhs; whnf))) ?_
        refine RN.qq rfl rfl rfl rfl (PRun.q (p_move rfl (by conv => lhs; whnf))) ?_
        refine RN.qq rfl rfl rfl rfl (PRun.q (by first | exact (p_indexAddrN rfl Try.underlying58 ts_51 rfl rfl (by omega)) | exact (p_indexAddr rfl Try.underlying58 ts_51 rfl rfl (by omega)))) ?_
        refine RN.qq rfl rfl rfl rfl (PRun.q (p_fieldAddr rfl fa_51_0 rfl)) ?_
        refine RN.qq rfl rfl rfl rfl (QRun.ent ((Ent.pull_drop (is := [2]) rfl).trans (Ent.cons (hL.trans (view_cells (by omega))) (Ent.refl _))) (q_load1C (k := i * 4 + 0) (v := .int .i64 ls[i].key.kind) rfl sc_3 rfl (i := 0) rfl (flat_at4 Sm.four hi (by omega)))) ?_
        refine RN.qq rfl rfl rfl rfl (PRun.q (p_neq rfl rfl rfl)) ?_
        refine RN.qq rfl rfl rfl rfl (PRun.q (p_move rfl (by conv => lhs; whnf))) ?_
        first | refine RN.split_dec 37 rfl (fun h37 => ?_) (fun h37 => ?_) | refine RN.split 37 rfl (fun h37 => ?_) (fun h37 => ?_)
        ·
          refine RN.qq rfl rfl rfl rfl (PRun.q (p_move rfl (by conv => lhs; whnf))) ?_
          refine RN.qq rfl rfl rfl rfl (PRun.q (p_move rfl (by conv => lhs; whnf))) ?_
          refine RN.qq rfl rfl rfl rfl (PRun.q (by first | exact (p_indexAddrN rfl Try.underlying58 ts_51 rfl rfl (by omega)) | exact (p_indexAddr rfl Try.underlying58 ts_51 rfl rfl (by omega)))) ?_
          refine RN.qq rfl rfl rfl rfl (PRun.q (p_fieldAddr rfl fa_51_0 rfl)) ?_
          refine RN.qq rfl rfl rfl rfl (QRun.ent ((Ent.pull_drop (is := [2]) rfl).trans (Ent.cons (hL.trans (view_cells (by omega))) (Ent.refl _))) (q_load1C (k := i * 4 + 0) (v := .int .i64 ls[i].key.kind) rfl sc_3 rfl (i := 0) rfl (flat_at4 Sm.four hi (by omega)))) ?_
          refine RN.qq rfl rfl rfl rfl (PRun.q (p_neq rfl rfl rfl)) ?_
          refine RN.qq rfl rfl rfl rfl (PRun.q (p_pick_t rfl rfl (by conv => lhs; whnf))) ?_
          refine RN.qq rfl rfl rfl rfl (PRun.q (p_move rfl (by conv => lhs; whnf))) ?_
          first | refine RN.split_dec 45 rfl (fun h45 => ?_) (fun h45 => ?_) | refine RN.split 45 rfl (fun h45 => ?_) (fun h45 => ?_)
          ·
            refine RN.O rfl rfl rfl rfl ?_
            refine RN.O rfl rfl rfl rfl ?_
            refine RN.O rfl rfl rfl rfl ?_
            refine RN.O rfl rfl rfl rfl ?_
            refine RN.O rfl rfl rfl rfl ?_
            refine RN.O rfl rfl rfl rfl ?_
            refine RN.O rfl rfl rfl rfl ?_
            refine RN.qq rfl rfl rfl rfl (PRun.q (p_pick_t rfl rfl (by conv => lhs; whnf))) ?_
            refine RN.nil ?_
            refine hK16 _ _ ?_
            refine T.cond_t rfl ?_
            refine T.seq fun K17 hK17 => ?_
            refine T.region (l := [0]) rfl ?_
            refine RN.qq rfl rfl rfl rfl (PRun.q (p_assign rfl (by conv => lhs; whnf))) ?_
            refine RN.nil ?_
            refine hK17 _ _ ?_
            refine T.ret ?_
            refine Post.seq_r ?_
            refine Post.block_r ?_
            refine Post.seq_r ?_
            refine Post.seq_r ?_
            refine Post.block_r ?_
            refine Post.seq_r ?_
            refine bodyQ_ret [A] (RetRun.tmp RetRun.nil) ⟨rfl, rfl⟩ (Ent.pull_drop (is := [2, 2]) rfl)
          ·
            refine RN.qq rfl rfl rfl rfl (PRun.q (p_move rfl (by conv => lhs; whnf))) ?_
            refine RN.qq rfl rfl rfl rfl (PRun.q (p_move rfl (by conv => lhs; whnf))) ?_
            refine RN.qq rfl rfl rfl rfl (PRun.q (by first | exact (p_indexAddrN rfl Try.underlying58 ts_51 rfl rfl (by omega)) | exact (p_indexAddr rfl Try.underlying58 ts_51 rfl rfl (by omega)))) ?_
            refine RN.qq rfl rfl rfl rfl (PRun.q (p_fieldAddr rfl fa_51_3 rfl)) ?_
            refine RN.qq rfl rfl rfl rfl (QRun.ent ((Ent.pull_drop (is := [2]) rfl).trans (Ent.cons (hL.trans (view_cells (by omega))) (Ent.refl _))) (q_load1C (k := i * 4 + 3) (v := ls[i].v) rfl sc_49 rfl (i := 0) rfl (flat_at4 Sm.four hi (by omega)))) ?_
            refine RN.qq rfl rfl rfl rfl (QRun.ent ((Ent.pull_drop (is := [2]) rfl).trans (Ent.cons hsf.view (Ent.refl _))) (q_len_view rfl Try.underlying49 rfl (i := 0) rfl)) ?_
            refine RN.qq rfl rfl rfl rfl (PRun.q (p_gtr rfl rfl rfl)) ?_
            refine RN.qq rfl rfl rfl rfl (PRun.q (p_pick_f rfl rfl (by conv => lhs; whnf))) ?_
            refine RN.nil ?_
            refine hK16 _ _ ?_
            first | refine T.cond_dec rfl (fun h53 => ?_) (fun h53 => ?_) | refine T.cond rfl (fun h53 => ?_) (fun h53 => ?_)
            ·
              refine T.seq fun K18 hK18 => ?_
              refine T.region (l := [0]) rfl ?_
              refine RN.qq rfl rfl rfl rfl (PRun.q (p_assign rfl (by conv => lhs; whnf))) ?_
              refine RN.nil ?_
              refine hK18 _ _ ?_
              refine T.ret ?_
              refine Post.seq_r ?_
              refine Post.block_r ?_
              refine Post.seq_r ?_
              refine Post.seq_r ?_
              refine Post.block_r ?_
              refine Post.seq_r ?_
              refine bodyQ_ret [A] (RetRun.tmp RetRun.nil) ⟨rfl, rfl⟩ (Ent.pull_drop (is := [2, 2]) rfl)
            ·
              refine T.skip ?_
              refine ⟨(), ⟨.inr (Classical.not_not.1 h45), by omega⟩, (LiveIs.cons rfl (LiveIs.cons rfl (LiveIs.cons rfl (LiveIs.cons rfl LiveIs.nil)))), Ent.refl _⟩
        ·
          refine RN.O rfl rfl rfl rfl ?_
          refine RN.O rfl rfl rfl rfl ?_
          refine RN.O rfl rfl rfl rfl ?_
          refine RN.O rfl rfl rfl rfl ?_
          refine RN.O rfl rfl rfl rfl ?_
          refine RN.O rfl rfl rfl rfl ?_
          refine RN.qq rfl rfl rfl rfl (PRun.q (p_pick_f rfl rfl (by conv => lhs; whnf))) ?_
          refine RN.qq rfl rfl rfl rfl (PRun.q (p_move rfl (by conv => lhs; whnf))) ?_
          refine RN.qq rfl rfl rfl rfl (PRun.q (p_move rfl (by conv => lhs; whnf))) ?_
          refine RN.qq rfl rfl rfl rfl (PRun.q (p_move rfl (by conv => lhs; whnf))) ?_
          refine RN.qq rfl rfl rfl rfl (PRun.q (by first | exact (p_indexAddrN rfl Try.underlying58 ts_51 rfl rfl (by omega)) | exact (p_indexAddr rfl Try.underlying58 ts_51 rfl rfl (by omega)))) ?_
          refine RN.qq rfl rfl rfl rfl (PRun.q (p_fieldAddr rfl fa_51_3 rfl)) ?_
          refine RN.qq rfl rfl rfl rfl (QRun.ent ((Ent.pull_drop (is := [2]) rfl).trans (Ent.cons (hL.trans (view_cells (by omega))) (Ent.refl _))) (q_load1C (k := i * 4 + 3) (v := ls[i].v) rfl sc_49 rfl (i := 0) rfl (flat_at4 Sm.four hi (by omega)))) ?_
          refine RN.qq rfl rfl rfl rfl (QRun.ent ((Ent.pull_drop (is := [2]) rfl).trans (Ent.cons hsf.view (Ent.refl _))) (q_len_view rfl Try.underlying49 rfl (i := 0) rfl)) ?_
          refine RN.qq rfl rfl rfl rfl (PRun.q (p_gtr rfl rfl rfl)) ?_
          refine RN.qq rfl rfl rfl rfl (PRun.q (p_pick_f rfl rfl (by conv => lhs; whnf))) ?_
          refine RN.nil ?_
          refine hK16 _ _ ?_
          first | refine T.cond_dec rfl (fun h53 => ?_) (fun h53 => ?_) | refine T.cond rfl (fun h53 => ?_) (fun h53 => ?_)
          ·
            refine T.seq fun K19 hK19 => ?_
            refine T.region (l := [0]) rfl ?_
            refine RN.qq rfl rfl rfl rfl (PRun.q (p_assign rfl (by conv => lhs; whnf))) ?_
            refine RN.nil ?_
            refine hK19 _ _ ?_
            refine T.ret ?_
            refine Post.seq_r ?_
            refine Post.block_r ?_
            refine Post.seq_r ?_
            refine Post.seq_r ?_
            refine Post.block_r ?_
            refine Post.seq_r ?_
            refine bodyQ_ret [A] (RetRun.tmp RetRun.nil) ⟨rfl, rfl⟩ (Ent.pull_drop (is := [2, 2]) rfl)
          ·
            refine T.skip ?_
            refine ⟨(), ⟨.inl (Classical.not_not.1 h37), by omega⟩, (LiveIs.cons rfl (LiveIs.cons rfl (LiveIs.cons rfl (LiveIs.cons rfl LiveIs.nil)))), Ent.refl _⟩
      ·
        rintro ⟨⟩ e15 ⟨hk23, hb300⟩
        refine T.peek (A := view 1 ls[i].v ls[i].bytes.length (ls[i].bytes.map u8V)) ((Ent.pull_drop (is := [2]) rfl).trans ((Ent.head _ _).trans hsf.view)) view_form ?_
        rintro ⟨q3, cap3, hv3, -⟩
        refine T.regionD (z := 26) (Bs := [A]) (l := [(0, .pure), (1, .pure), (2, .pure), (3, .pure), (4, .pure), (5, .load), (6, .pure), (7, .pure), (8, .pure), (9, .pure), (10, .load), (11, .pure), (12, .pure), (13, .pure), (14, .pure), (15, .load), (16, .pure), (17, .pure), (18, .pure), (19, .pure), (20, .load), (21, .pure), (22, .eff), (23, .eff), (24, .eff), (25, .pure)]) mixed (by kernel_rfl) (by first | exact Ent.refl _ | exact Ent.pull_drop (is := [0]) rfl | exact Ent.pull_drop (is := [1]) rfl | exact Ent.pull_drop (is := [2]) rfl | exact Ent.pull_drop (is := [3]) rfl) ?_
        refine RD.pp rfl rfl rfl rfl (p_move rfl (by conv => lhs; whnf)) ?_
        refine RD.pp rfl rfl rfl rfl (p_move rfl (by conv => lhs; whnf)) ?_
        refine RD.pp rfl rfl rfl rfl (p_move rfl (by conv => lhs; whnf)) ?_
        refine RD.pp rfl rfl rfl rfl (by first | exact (p_indexAddrN rfl Try.underlying58 ts_51 rfl rfl (by omega)) | exact (p_indexAddr rfl Try.underlying58 ts_51 rfl rfl (by omega))) ?_
        refine RD.pp rfl rfl rfl rfl (p_fieldAddr rfl fa_51_0 rfl) ?_
        refine RD.qq rfl rfl rfl rfl (QRun.ent ((Ent.pull_drop (is := [0]) rfl).trans (Ent.cons (hL.trans (view_cells (by omega))) (Ent.refl _))) (q_load1C (k := i * 4 + 0) (v := .int .i64 ls[i].key.kind) rfl sc_3 rfl (i := 0) rfl (flat_at4 Sm.four hi (by omega)))) (by first | exact Ent.refl _ | exact Ent.pull_drop (is := [0]) rfl | exact Ent.pull_drop (is := [1]) rfl | exact Ent.pull_drop (is := [2]) rfl | exact Ent.pull_drop (is := [3]) rfl) ?_
        refine RD.pp rfl rfl rfl rfl (p_move rfl (by conv => lhs; whnf)) ?_
        refine RD.pp rfl rfl rfl rfl (p_move rfl (by conv => lhs; whnf)) ?_
        refine RD.pp rfl rfl rfl rfl (by first | exact (p_indexAddrN rfl Try.underlying58 ts_51 rfl rfl (by omega)) | exact (p_indexAddr rfl Try.underlying58 ts_51 rfl rfl (by omega))) ?_
        refine RD.pp rfl rfl rfl rfl (p_fieldAddr rfl fa_51_1 rfl) ?_
        refine RD.qq rfl rfl rfl rfl (QRun.ent ((Ent.pull_drop (is := [0]) rfl).trans (Ent.cons (hL.trans (view_cells (by omega))) (Ent.refl _))) (q_load1C (k := i * 4 + 1) (v := u32V ls[i].key.epoch) rfl sc_48 rfl (i := 0) rfl (flat_at4 Sm.four hi (by omega)))) (by first | exact Ent.refl _ | exact Ent.pull_drop (is := [0]) rfl | exact Ent.pull_drop (is := [1]) rfl | exact Ent.pull_drop (is := [2]) rfl | exact Ent.pull_drop (is := [3]) rfl) ?_
        refine RD.pp rfl rfl rfl rfl (p_move rfl (by conv => lhs; whnf)) ?_
        refine RD.pp rfl rfl rfl rfl (p_move rfl (by conv => lhs; whnf)) ?_
        refine RD.pp rfl rfl rfl rfl (by first | exact (p_indexAddrN rfl Try.underlying58 ts_51 rfl rfl (by omega)) | exact (p_indexAddr rfl Try.underlying58 ts_51 rfl rfl (by omega))) ?_
        refine RD.pp rfl rfl rfl rfl (p_fieldAddr rfl fa_51_2 rfl) ?_
        refine RD.qq rfl rfl rfl rfl (QRun.ent ((Ent.pull_drop (is := [0]) rfl).trans (Ent.cons (hL.trans (view_cells (by omega))) (Ent.refl _))) (q_load1C (k := i * 4 + 2) (v := u32V ls[i].key.group) rfl sc_48 rfl (i := 0) rfl (flat_at4 Sm.four hi (by omega)))) (by first | exact Ent.refl _ | exact Ent.pull_drop (is := [0]) rfl | exact Ent.pull_drop (is := [1]) rfl | exact Ent.pull_drop (is := [2]) rfl | exact Ent.pull_drop (is := [3]) rfl) ?_
        refine RD.pp rfl rfl rfl rfl (p_move rfl (by conv => lhs; whnf)) ?_
        refine RD.pp rfl rfl rfl rfl (p_move rfl (by conv => lhs; whnf)) ?_
        refine RD.pp rfl rfl rfl rfl (by first | exact (p_indexAddrN rfl Try.underlying58 ts_51 rfl rfl (by omega)) | exact (p_indexAddr rfl Try.underlying58 ts_51 rfl rfl (by omega))) ?_
        refine RD.pp rfl rfl rfl rfl (p_fieldAddr rfl fa_51_3 rfl) ?_
        refine RD.qq rfl rfl rfl rfl (QRun.ent ((Ent.pull_drop (is := [0]) rfl).trans (Ent.cons (hL.trans (view_cells (by omega))) (Ent.refl _))) (q_load1C (k := i * 4 + 3) (v := ls[i].v) rfl sc_49 rfl (i := 0) rfl (flat_at4 Sm.four hi (by omega)))) (by first | exact Ent.refl _ | exact Ent.pull_drop (is := [0]) rfl | exact Ent.pull_drop (is := [1]) rfl | exact Ent.pull_drop (is := [2]) rfl | exact Ent.pull_drop (is := [3]) rfl) ?_
        refine RD.pp rfl rfl rfl rfl (p_build (cs := strm ls[i].key.kind ls[i].key.epoch ls[i].key.group ls[i].v) rfl pl_57 ti_57 (by rw [hv3]; rfl)) ?_
        refine RD.C [2] rfl rfl rfl rfl (c_call rfl rfl) (RCut_spec ls[i].key.kind ls[i].key.epoch ls[i].key.group A ls[i].v ls[i].bytes hsf.view (by omega)) rfl (by rintro _ _ ⟨_, rfl⟩; exact .inl (by first | exact Ent.refl _ | exact Ent.pull_drop (is := [0]) rfl | exact Ent.pull_drop (is := [1]) rfl | exact Ent.pull_drop (is := [2]) rfl | exact Ent.pull_drop (is := [3]) rfl)) ?_
        rintro v76 _ ⟨hv76, rfl⟩
        refine RD.E rfl rfl rfl rfl (e_buildSlice1 (v := v76) rfl Try.underlying63 ti_45 rfl (by conv => lhs; whnf) hv76) (by rintro _ _ ⟨_, rfl, rfl⟩; exact .inl (by first | exact Ent.refl _ | exact Ent.pull_drop (is := [0]) rfl | exact Ent.pull_drop (is := [1]) rfl | exact Ent.pull_drop (is := [2]) rfl | exact Ent.pull_drop (is := [3]) rfl)) ?_
        rintro _ _ ⟨b77, rfl, rfl⟩
        refine RD.E rfl rfl rfl rfl (e_append rfl Try.underlying63 ni_63 ti_45 rfl rfl (i := 3) rfl (src_full (i := 0) rfl rfl) (Go.Sl.one_one hv76) (by omega)) (by rintro _ _ ⟨_, rfl⟩; exact .inl (by first | exact Ent.refl _ | exact Ent.pull_drop (is := [0]) rfl | exact Ent.pull_drop (is := [1]) rfl | exact Ent.pull_drop (is := [2]) rfl | exact Ent.pull_drop (is := [3]) rfl)) ?_
        rintro v78 _ ⟨hv78, rfl⟩
        refine RD.pp rfl rfl rfl rfl (p_assign rfl (by conv => lhs; whnf)) ?_
        refine RD.nil ?_
        refine hK14 _ _ ?_
        refine T.region (l := [0, 1, 2]) rfl ?_
        refine RN.qq rfl rfl rfl rfl (PRun.q (p_move rfl (by conv => lhs; whnf))) ?_
        refine RN.qq rfl rfl rfl rfl (PRun.q (by first | exact (p_addN (b := 1) rfl rfl rfl (by omega)) | exact (p_add rfl rfl rfl (by omega)))) ?_
        refine RN.qq rfl rfl rfl rfl (PRun.q (p_assign rfl (by conv => lhs; whnf))) ?_
        refine RN.nil ?_
        refine ⟨(i + 1, cs ++ [⟨v76, ls[i].cut⟩], v78), ⟨by omega, (by rw [List.length_append, hcl]; rfl), cs_take hi hcs, hv78, cs_all hone5 hv76, (fun s hs => by
              rw [List.take_succ_eq_append_getElem hi] at hs
              rcases List.mem_append.1 hs with h | h
              · exact hks s h
              · rw [List.mem_singleton.1 h]; exact ⟨hk23, hb300⟩)⟩, (by show _ - (i + 1) < _ - i; omega), (LiveIs.cons rfl (LiveIs.cons rfl (LiveIs.cons rfl (LiveIs.cons rfl LiveIs.nil)))), ?_⟩
        refine (Ent.pull_drop (is := [3, 1, 2, 1, 1]) rfl).trans (Ent.cons (vec_same (by rw [List.length_append]; rfl) (by rw [List.map_append]; rfl)) ((Ent.cons (vec_same (Sm.cut_length _).symm rfl) (Ent.refl _)).trans (cs_push (s := ⟨v76, ls[i].cut⟩))))
    ·
      have hi : i = ls.length := by omega
      subst hi
      rw [List.take_length] at hcs hks
      refine T.exit ?_
      refine Post.seq_x ?_
      refine Post.seq_x ?_
      refine Post.block_hit ?_
      refine hK9 _ _ ?_
      refine T.seq fun K20 hK20 => ?_
      refine T.region (l := [0]) rfl ?_
      refine RN.qq rfl rfl rfl rfl (PRun.q (p_assign rfl (by conv => lhs; whnf))) ?_
      refine RN.nil ?_
      refine hK20 _ _ ?_
      refine T.cut (G := List Pg × Value) (fun ⟨pg, v7⟩ => pg.length ≤ 60 ∧ (∀ p ∈ pg, p.fit ∧ U32 p.seq ∧ 0 ≤ p.kind ∧ p.kind ≤ 3)) (fun ⟨pg, v7⟩ => [(7, v7)]) (fun ⟨pg, v7⟩ => [vec 54 39 v7 pg.length (pgs pg), A, Fr]) ?_ ?_
      ·
        refine T.seq fun K22 hK22 => ?_
        refine T.ent (Ent.vec_nil' (el := 54) (sz := 39)) ?_
        refine T.region (l := [0]) rfl ?_
        refine RN.qq rfl rfl rfl rfl (PRun.q (p_assign rfl (by conv => lhs; whnf))) ?_
        refine RN.nil ?_
        refine hK22 _ _ ?_
        refine T.block ?_
        refine T.loop (G := Nat × List Pg × Value) (fun ⟨i, pg, v7⟩ => i ≤ xs.length ∧ pg.length = i ∧ (∀ p ∈ pg, p.fit ∧ U32 p.seq ∧ 0 ≤ p.kind ∧ p.kind ≤ 3) ∧ v7.oneCell' = true) (fun ⟨i, pg, v7⟩ => [(0, .slice q ls.length cap), (1, .slice q2 xs.length cap2), (5, v5), (7, v7), (8, intV i)]) (fun ⟨i, pg, v7⟩ => [vec 54 39 v7 pg.length (pgs pg), vec 45 1 v5 cs.length (cs.map Cs.v), sep (cs.map Cs.own), A, Fr]) (fun ⟨i, pg, v7⟩ => xs.length - i) (0, [], .slice none 0 0) ⟨Nat.zero_le _, rfl, (fun p hp => by cases hp), rfl⟩ (LiveIs.cons rfl (LiveIs.cons rfl (LiveIs.cons rfl (LiveIs.cons rfl (LiveIs.cons rfl LiveIs.nil))))) (Ent.refl _) ?_
        rintro ⟨i, pg, v7⟩ e23 ⟨hix, hpl, hpg, hv7⟩
        dsimp only
        refine T.seq fun K24 hK24 => ?_
        refine T.seq fun K25 hK25 => ?_
        refine T.region (l := [0, 1, 2, 3, 4, 5, 6, 7, 8]) rfl ?_
        refine RN.qq rfl rfl rfl rfl (PRun.q (p_move rfl (by conv => lhs; whnf))) ?_
        refine RN.qq rfl rfl rfl rfl (PRun.q (p_move rfl (by conv => lhs; whnf))) ?_
        refine RN.qq rfl rfl rfl rfl (PRun.q (p_len rfl Try.underlying62 rfl)) ?_
        refine RN.qq rfl rfl rfl rfl (PRun.q (p_lss rfl rfl rfl)) ?_
        refine RN.qq rfl rfl rfl rfl (PRun.q (p_move rfl (by conv => lhs; whnf))) ?_
        first | refine RN.split_dec 83 rfl (fun h83 => ?_) (fun h83 => ?_) | refine RN.split 83 rfl (fun h83 => ?_) (fun h83 => ?_)
        ·
          refine RN.qq rfl rfl rfl rfl (PRun.q (p_move rfl (by conv => lhs; whnf))) ?_
          refine RN.qq rfl rfl rfl rfl (PRun.q (p_len rfl Try.underlying58 rfl)) ?_
          refine RN.qq rfl rfl rfl rfl (PRun.q (p_gtr rfl rfl rfl)) ?_
          refine RN.qq rfl rfl rfl rfl (PRun.q (p_pick_t rfl rfl (by conv => lhs; whnf))) ?_
          refine RN.nil ?_
          refine hK25 _ _ ?_
          first | refine T.cond_dec rfl (fun h87 => ?_) (fun h87 => ?_) | refine T.cond rfl (fun h87 => ?_) (fun h87 => ?_)
          ·
            have hi : i < xs.length := by omega
            have hl0 : 0 < ls.length := by omega
            obtain ⟨pb, po, rfl⟩ := hqf2 (by omega)
            refine T.openVec 1 rfl (by omega) ?_
            rintro bC capC restC rfl c1 c2 c3
            refine T.skip ?_
            refine hK24 _ _ ?_
            refine T.seq fun K26 hK26 => ?_
            refine T.block ?_
            refine T.seq fun K27 hK27 => ?_
            refine T.region (l := [0, 1, 2, 3, 4, 5, 6, 7, 8, 9, 10, 11]) rfl ?_
            refine RN.qq rfl rfl rfl rfl (PRun.q (p_move rfl (by conv => lhs; whnf))) ?_
            refine RN.qq rfl rfl rfl rfl (PRun.q (p_move rfl (by conv => lhs; whnf))) ?_
            refine RN.qq rfl rfl rfl rfl (PRun.q (p_move rfl (by conv => lhs; whnf))) ?_
            refine RN.qq rfl rfl rfl rfl (PRun.q (by first | exact (p_indexAddrN rfl Try.underlying62 ts_66 rfl rfl (by omega)) | exact (p_indexAddr rfl Try.underlying62 ts_66 rfl rfl (by omega)))) ?_
            refine RN.qq rfl rfl rfl rfl (PRun.q (p_fieldAddr rfl fa_66_0 rfl)) ?_
            refine RN.qq rfl rfl rfl rfl (QRun.ent ((Ent.pull_drop (is := [3]) rfl).trans (Ent.cons (hP.trans (view_cells (by omega))) (Ent.refl _))) (q_load1C (k := i * 4 + 0) (v := iV xs[i].o) rfl sc_3 rfl (i := 0) rfl (flat_at4 Pk.four hi (by omega)))) ?_
            refine RN.qq rfl rfl rfl rfl (PRun.q (p_move rfl (by conv => lhs; whnf))) ?_
            refine RN.qq rfl rfl rfl rfl (PRun.q (p_len rfl Try.underlying58 rfl)) ?_
            refine RN.C [] rfl rfl rfl rfl (c_call rfl rfl) (wrap_spec xs[i].o ls.length ⟨by omega, by omega⟩) rfl ?_
            rintro _ _ ⟨rfl, rfl⟩
            have hj : (xs[i].o % ((ls.length : Nat) : Int)).toNat < ls.length := by
              have g1 := Int.emod_nonneg (xs[i].o) (show ((ls.length : Nat) : Int) ≠ 0 by omega)
              have g2 := Int.emod_lt_of_pos (xs[i].o) (show (0 : Int) < ((ls.length : Nat) : Int) by omega)
              omega
            generalize (xs[i].o % ((ls.length : Nat) : Int)).toNat = j at hj ⊢
            have hsf := hF _ (List.getElem_mem hj)
            have hjc : j < cs.length := by omega
            have ecj := cs_at hcs hj hjc
            have hkj := hks _ (List.getElem_mem hj)
            have hpn := pagesN_le (n := ls[j].bytes.length) (by omega)
            have ecl : cs[j].ps.length = pagesN ls[j].bytes.length := by rw [ecj, Sm.cut_length]
            refine RN.qq rfl rfl rfl rfl (PRun.q (by first | exact (p_indexAddr1N rfl Try.underlying63 ts_45 rfl rfl (by omega)) | exact (p_indexAddr1 rfl Try.underlying63 ts_45 rfl rfl (by omega)))) ?_
            refine RN.qq rfl rfl rfl rfl (q_load (v := cs[j].v) rfl sc_45 rfl (i := 1) rfl (vs_at hjc)) ?_
            refine RN.qq rfl rfl rfl rfl (PRun.q (p_assign (v := cs[j].v) rfl rfl)) ?_
            refine RN.nil ?_
            refine hK27 _ _ ?_
            refine T.peek (A := view 39 cs[j].v cs[j].ps.length (pgs cs[j].ps)) ((Ent.pull_drop (is := [2]) rfl).trans ((Ent.head _ _).trans (cs_view hjc))) view_form ?_
            rintro ⟨q3, cap3, hv3, hc3, hm3, hq3⟩
            obtain ⟨sb, so, rfl⟩ := hq3 (by omega)
            have hvw := cs_view hjc
            rw [hv3] at hvw ⊢
            have hcf : ∀ p ∈ cs[j].ps, p.fit ∧ U32 p.seq ∧ p.kind = ls[j].key.kind := by rw [ecj]; exact cut_fit hsf.epoch hsf.group (by omega)
            have hcp : ∀ p ∈ cs[j].ps, p.pay.length = 32 := fun p hp => (hcf p hp).1.ok.pay
            refine T.regionD (z := 20) (Bs := [sep (cs.map Cs.own), A]) (l := [(0, .pure), (1, .pure), (2, .pure), (3, .pure), (4, .pure), (5, .pure), (6, .load), (7, .pure), (8, .pure), (12, .pure), (13, .pure), (14, .pure), (15, .load), (9, .eff), (10, .pure), (11, .load), (16, .eff), (17, .eff), (18, .eff), (19, .pure)]) mixed (by kernel_rfl) (by first | exact Ent.refl _ | exact Ent.pull_drop (is := [2, 2]) rfl | exact Ent.pull_drop (is := [3, 3]) rfl) ?_
            refine RD.pp rfl rfl rfl rfl (p_move rfl (by conv => lhs; whnf)) ?_
            refine RD.pp rfl rfl rfl rfl (p_move rfl (by conv => lhs; whnf)) ?_
            refine RD.pp rfl rfl rfl rfl (p_move rfl (by conv => lhs; whnf)) ?_
            refine RD.pp rfl rfl rfl rfl (p_move rfl (by conv => lhs; whnf)) ?_
            refine RD.pp rfl rfl rfl rfl (by first | exact (p_indexAddrN rfl Try.underlying62 ts_66 rfl rfl (by omega)) | exact (p_indexAddr rfl Try.underlying62 ts_66 rfl rfl (by omega))) ?_
            refine RD.pp rfl rfl rfl rfl (p_fieldAddr rfl fa_66_1 rfl) ?_
            refine RD.qq rfl rfl rfl rfl (QRun.ent ((Ent.pull_drop (is := [1]) rfl).trans (Ent.cons (hP.trans (view_cells (by omega))) (Ent.refl _))) (q_load1C (k := i * 4 + 1) (v := iV xs[i].i) rfl sc_3 rfl (i := 0) rfl (flat_at4 Pk.four hi (by omega)))) (by first | exact Ent.refl _ | exact Ent.pull_drop (is := [2, 2]) rfl | exact Ent.pull_drop (is := [3, 3]) rfl) ?_
            refine RD.pp rfl rfl rfl rfl (p_move rfl (by conv => lhs; whnf)) ?_
            refine RD.pp rfl rfl rfl rfl (p_len rfl Try.underlying45 rfl) ?_
            refine RD.pp rfl rfl rfl rfl (p_move rfl (by conv => lhs; whnf)) ?_
            refine RD.pp rfl rfl rfl rfl (p_move rfl (by conv => lhs; whnf)) ?_
            refine RD.pp rfl rfl rfl rfl (by first | exact (p_indexAddrN rfl Try.underlying62 ts_66 rfl rfl (by omega)) | exact (p_indexAddr rfl Try.underlying62 ts_66 rfl rfl (by omega))) ?_
            refine RD.qq rfl rfl rfl rfl (QRun.ent ((Ent.pull_drop (is := [1]) rfl).trans (Ent.cons (hP.trans (view_cells (by omega))) (Ent.refl _))) (q_loadCA (us := xs[i].cells) (j := i * 4) rfl ag_66 ts_66 rfl (i := 0) rfl (by rw [flat_len4 Pk.four]; omega) (flat_get4 Pk.four hi))) (by first | exact Ent.refl _ | exact Ent.pull_drop (is := [2, 2]) rfl | exact Ent.pull_drop (is := [3, 3]) rfl) ?_
            refine RD.C [] rfl rfl rfl rfl (c_call rfl rfl) (wrap_spec xs[i].i cs[j].ps.length ⟨by omega, by omega⟩) rfl (by rintro _ _ ⟨rfl, rfl⟩; exact .inl (by first | exact Ent.refl _ | exact Ent.pull_drop (is := [2, 2]) rfl | exact Ent.pull_drop (is := [3, 3]) rfl)) ?_
            rintro _ _ ⟨rfl, rfl⟩
            have hk : (xs[i].i % ((cs[j].ps.length : Nat) : Int)).toNat < cs[j].ps.length := by
              have g1 := Int.emod_nonneg (xs[i].i) (show ((cs[j].ps.length : Nat) : Int) ≠ 0 by omega)
              have g2 := Int.emod_lt_of_pos (xs[i].i) (show (0 : Int) < ((cs[j].ps.length : Nat) : Int) by omega)
              omega
            generalize (xs[i].i % ((cs[j].ps.length : Nat) : Int)).toNat = k at hk ⊢
            have hkf := hcf _ (List.getElem_mem hk)
            refine RD.pp rfl rfl rfl rfl (by first | exact (p_indexAddrN rfl Try.underlying45 ts_54 rfl rfl (by omega)) | exact (p_indexAddr rfl Try.underlying45 ts_54 rfl rfl (by omega))) ?_
            refine RD.qq rfl rfl rfl rfl (QRun.ent ((Ent.pull_drop (is := [0]) rfl).trans (Ent.cons (hvw.trans (view_cells (by omega))) (Ent.refl _))) (q_loadCA (us := cs[j].ps[k].cells) (j := k * 39) rfl ag_54 ts_54 rfl (i := 0) rfl (by rw [pgs_length hcp]; omega) (pgs_get hcp hk))) (by first | exact Ent.refl _ | exact Ent.pull_drop (is := [2, 2]) rfl | exact Ent.pull_drop (is := [3, 3]) rfl) ?_
            refine RD.C [] rfl rfl rfl rfl (c_call rfl rfl) (Changed_spec cs[j].ps[k] hkf.1 hkf.2.1 xs[i].o xs[i].i xs[i].f xs[i].v) rfl (by rintro _ _ ⟨_, rfl, _, _, _, rfl⟩; exact .inl (by first | exact Ent.refl _ | exact Ent.pull_drop (is := [2, 2]) rfl | exact Ent.pull_drop (is := [3, 3]) rfl)) ?_
            rintro _ _ ⟨p2, rfl, hp2, hs2, hk2, rfl⟩
            refine RD.E rfl rfl rfl rfl (e_buildSlice1A rfl Try.underlying45 ti_54 rfl rfl (Pg.cells_length hp2.ok.pay) (by decide)) (by rintro _ _ ⟨_, rfl, rfl⟩; exact .inl (by first | exact Ent.refl _ | exact Ent.pull_drop (is := [2, 2]) rfl | exact Ent.pull_drop (is := [3, 3]) rfl)) ?_
            rintro _ _ ⟨b118, rfl, rfl⟩
            refine RD.E rfl rfl rfl rfl (e_append rfl Try.underlying45 ni_45 ti_54 rfl rfl (i := 1) rfl (src_full (i := 0) rfl (Pg.cells_length hp2.ok.pay)) Pg.one (by omega)) (by rintro _ _ ⟨_, rfl⟩; exact .inl (by first | exact Ent.refl _ | exact Ent.pull_drop (is := [2, 2]) rfl | exact Ent.pull_drop (is := [3, 3]) rfl)) ?_
            rintro v119 _ ⟨hv119, rfl⟩
            refine RD.pp rfl rfl rfl rfl (p_assign rfl (by conv => lhs; whnf)) ?_
            refine RD.nil ?_
            refine hK26 _ _ ?_
            refine T.region (l := [0, 1, 2]) rfl ?_
            refine RN.qq rfl rfl rfl rfl (PRun.q (p_move rfl (by conv => lhs; whnf))) ?_
            refine RN.qq rfl rfl rfl rfl (PRun.q (by first | exact (p_addN (b := 1) rfl rfl rfl (by omega)) | exact (p_add rfl rfl rfl (by omega)))) ?_
            refine RN.qq rfl rfl rfl rfl (PRun.q (p_assign rfl (by conv => lhs; whnf))) ?_
            refine RN.nil ?_
            refine ⟨(i + 1, pg ++ [p2], v119), ⟨by omega, (by rw [List.length_append, hpl]; rfl), (fun p hp => by
              rcases List.mem_append.1 hp with h | h
              · exact hpg p h
              · rw [List.mem_singleton.1 h]; exact ⟨hp2, hs2, by omega⟩), hv119⟩, (by show _ - (i + 1) < _ - i; omega), (LiveIs.cons rfl (LiveIs.cons rfl (LiveIs.cons rfl (LiveIs.cons rfl (LiveIs.cons rfl LiveIs.nil))))), ?_⟩
            refine (Ent.pull_drop (is := [1, 1, 1, 1, 1]) rfl).trans (Ent.cons (vec_same (by rw [List.length_append]; rfl) (by rw [pgs_push])) (Ent.cons (vec_of_row (by rw [List.length_map]; omega) c1 c2 c3) (Ent.refl _)))
          ·
            refine T.exit ?_
            refine Post.seq_x ?_
            refine Post.seq_x ?_
            refine Post.block_hit ?_
            refine ⟨(pg, v7), ⟨(by show pg.length ≤ 60; omega), hpg⟩, (LiveIs.cons rfl LiveIs.nil), (Ent.pull_drop (is := [0, 2, 2]) rfl)⟩
        ·
          refine RN.O rfl rfl rfl rfl ?_
          refine RN.O rfl rfl rfl rfl ?_
          refine RN.O rfl rfl rfl rfl ?_
          refine RN.qq rfl rfl rfl rfl (PRun.q (p_pick_f rfl rfl (by conv => lhs; whnf))) ?_
          refine RN.nil ?_
          refine hK25 _ _ ?_
          refine T.cond_f rfl ?_
          refine T.exit ?_
          refine Post.seq_x ?_
          refine Post.seq_x ?_
          refine Post.block_hit ?_
          refine ⟨(pg, v7), ⟨(by show pg.length ≤ 60; omega), hpg⟩, (LiveIs.cons rfl LiveIs.nil), (Ent.pull_drop (is := [0, 2, 2]) rfl)⟩
      ·
        rintro ⟨pg, v7⟩ e21 ⟨hp60, hpg⟩
        dsimp only at hp60 hpg ⊢
        refine T.seq fun K28 hK28 => ?_
        refine T.region (l := [0, 1, 2, 3, 4, 5, 6]) rfl ?_
        refine RN.E rfl rfl rfl rfl (e_buildSlice0 rfl Try.underlying45 ti_54 rfl) ?_
        rintro _ _ ⟨b120, rfl, rfl⟩
        refine RN.qq rfl rfl rfl rfl (PRun.q (p_move rfl (by conv => lhs; whnf))) ?_
        refine RN.ent (Ent.cons (vec_empty (el := 54) (sz := 39)) (Ent.refl _)) ?_
        refine RN.E rfl rfl rfl rfl (e_append rfl Try.underlying45 ni_45 ti_54 rfl rfl (i := 0) rfl (src_vec (i := 1) rfl (pgs_length (fun p hp => (hpg p hp).1.ok.pay))) pgs_all (by omega)) ?_
        rintro v122 _ ⟨hv122, rfl⟩
        refine RN.qq rfl rfl rfl rfl (PRun.q (p_build (cs := P9.cells) rfl pl_54 ti_54 rfl)) ?_
        refine RN.E rfl rfl rfl rfl (e_buildSlice1A rfl Try.underlying45 ti_54 rfl rfl (Pg.cells_length rfl) (by decide)) ?_
        rintro _ _ ⟨b124, rfl, rfl⟩
        refine RN.E rfl rfl rfl rfl (e_append rfl Try.underlying45 ni_45 ti_54 rfl rfl (i := 1) rfl (src_full (i := 0) rfl (Pg.cells_length rfl)) Pg.one (by omega)) ?_
        rintro v125 _ ⟨hv125, rfl⟩
        refine RN.qq rfl rfl rfl rfl (PRun.q (p_assign rfl (by conv => lhs; whnf))) ?_
        refine RN.nil ?_
        refine hK28 _ _ ?_
        refine T.seq fun K29 hK29 => ?_
        refine T.ent (Ent.at (i := 1) (B := vec 54 39 v125 (pg.length + 1) (pgs (pg ++ [P9]))) rfl (vec_same (by omega) (by rw [List.nil_append, pgs_push]))) ?_
        refine T.peek (A := view 39 v125 (pg.length + 1) (pgs (pg ++ [P9]))) ((Ent.pull_drop (is := [1]) rfl).trans ((Ent.head _ _).trans view_of_vec)) view_form ?_
        rintro ⟨q9, cap9, rfl, h9c, h9m, h9f⟩
        refine T.peek (A := view 39 v7 pg.length (pgs pg)) ((Ent.pull_drop (is := [2]) rfl).trans ((Ent.head _ _).trans view_of_vec)) view_form ?_
        rintro ⟨q7, cap7, rfl, h7c, h7m, h7f⟩
        refine T.region (l := [0, 1, 2, 3, 4, 5]) rfl ?_
        refine RN.qq rfl rfl rfl rfl (PRun.q (p_move rfl (by conv => lhs; whnf))) ?_
        refine RN.qq rfl rfl rfl rfl (PRun.q (p_move rfl (by conv => lhs; whnf))) ?_
        refine RN.qq rfl rfl rfl rfl (PRun.q (p_len rfl Try.underlying45 rfl)) ?_
        refine RN.qq rfl rfl rfl rfl (PRun.q (run_sliceAny (l := 0) (h := pg.length) rfl Try.underlying45 ts_54 rfl rfl rfl ⟨by omega, by omega⟩)) ?_
        refine RN.C [1] rfl rfl rfl rfl (c_call rfl rfl) (LJoin_spec (vec 54 39 (.slice q9 (pg.length + 1) cap9) (pg.length + 1) (pgs (pg ++ [P9]))) (subSl 39 (.slice q9 (pg.length + 1) cap9) 0 pg.length) pg (vec_pre (fun p hp => (hpg p hp).1.ok.pay) rfl rfl) (fun p hp => (hpg p hp).1) (by omega)) rfl ?_
        rintro v130 _ ⟨ka, ra, hka, hra, hv130, hone, rfl⟩
        refine RN.qq rfl rfl rfl rfl (PRun.q (p_assign rfl (by conv => lhs; whnf))) ?_
        refine RN.nil ?_
        refine hK29 _ _ ?_
        refine T.seq fun K30 hK30 => ?_
        refine T.seq fun K31 hK31 => ?_
        refine T.region (l := [0]) rfl ?_
        refine RN.qq rfl rfl rfl rfl (PRun.q (p_assign rfl (by conv => lhs; whnf))) ?_
        refine RN.nil ?_
        refine hK31 _ _ ?_
        refine T.block ?_
        refine T.loop (G := Nat) (fun i => i ≤ pg.length) (fun i => [(7, .slice q7 pg.length cap7), (10, .slice q9 (pg.length + 1) cap9), (11, v130), (12, intV i)]) (fun i => [vec 51 4 v130 ra.length ((ra.map Sm.cells).flatten), sep (ra.map Sm.own), vec 54 39 (.slice q9 (pg.length + 1) cap9) (pg.length + 1) (pgs (pg ++ [P9])), vec 54 39 (.slice q7 pg.length cap7) pg.length (pgs pg), A, Fr]) (fun i => pg.length - i) 0 (Nat.zero_le _) (LiveIs.cons rfl (LiveIs.cons rfl (LiveIs.cons rfl (LiveIs.cons rfl LiveIs.nil)))) (Ent.pull_drop (is := [0, 0, 0, 1, 1, 1]) rfl) ?_
        rintro i e32 hip
        refine T.seq fun K33 hK33 => ?_
        refine T.seq fun K34 hK34 => ?_
        refine T.region (l := [0, 1, 2, 3]) rfl ?_
        refine RN.qq rfl rfl rfl rfl (PRun.q (p_move rfl (by conv => lhs; whnf))) ?_
        refine RN.qq rfl rfl rfl rfl (PRun.q (p_move rfl (by conv => lhs; whnf))) ?_
        refine RN.qq rfl rfl rfl rfl (PRun.q (p_len rfl Try.underlying45 rfl)) ?_
        refine RN.qq rfl rfl rfl rfl (PRun.q (p_lss rfl rfl rfl)) ?_
        refine RN.nil ?_
        refine hK34 _ _ ?_
        first | refine T.cond_dec rfl (fun h134 => ?_) (fun h134 => ?_) | refine T.cond rfl (fun h134 => ?_) (fun h134 => ?_)
        ·
          have hi : i < pg.length := by omega
          obtain ⟨wb, wo, rfl⟩ := h7f (by omega)
          obtain ⟨nb, no, rfl⟩ := h9f (by omega)
          have hiF := hpg _ (List.getElem_mem hi)
          refine T.skip ?_
          refine hK33 _ _ ?_
          refine T.seq fun K35 hK35 => ?_
          refine T.block ?_
          refine T.seq fun K36 hK36 => ?_
          refine T.regionD (z := 9) (Bs := [vec 54 39 _ (pg.length + 1) (pgs (pg ++ [P9])), vec 54 39 _ pg.length (pgs pg)]) (l := [(0, .pure), (1, .pure), (2, .pure), (3, .load), (4, .pure), (5, .pure), (6, .pure), (7, .load), (8, .pure)]) mixed (by kernel_rfl) (by first | exact Ent.refl _ | exact Ent.pull_drop (is := [2, 2]) rfl) ?_
          refine RD.pp rfl rfl rfl rfl (p_move rfl (by conv => lhs; whnf)) ?_
          refine RD.pp rfl rfl rfl rfl (p_move rfl (by conv => lhs; whnf)) ?_
          refine RD.pp rfl rfl rfl rfl (by first | exact (p_indexAddrN rfl Try.underlying45 ts_54 rfl rfl (by omega)) | exact (p_indexAddr rfl Try.underlying45 ts_54 rfl rfl (by omega))) ?_
          refine RD.qq rfl rfl rfl rfl (QRun.ent ((Ent.pull_drop (is := [0]) rfl).trans (Ent.cons (view_of_vec.trans (view_cells (by omega))) (Ent.refl _))) (q_loadCA (us := pg[i].cells) (j := i * 39) rfl ag_54 ts_54 rfl (i := 0) rfl (by rw [pgs_len9 (fun p hp => (hpg p hp).1.ok.pay) rfl]; omega) (pgs_get9 (fun p hp => (hpg p hp).1.ok.pay) hi))) (by first | exact Ent.refl _ | exact Ent.pull_drop (is := [2, 2]) rfl) ?_
          refine RD.pp rfl rfl rfl rfl (p_move rfl (by conv => lhs; whnf)) ?_
          refine RD.pp rfl rfl rfl rfl (p_move rfl (by conv => lhs; whnf)) ?_
          refine RD.pp rfl rfl rfl rfl (by first | exact (p_indexAddrN rfl Try.underlying45 ts_54 rfl rfl (by omega)) | exact (p_indexAddr rfl Try.underlying45 ts_54 rfl rfl (by omega))) ?_
          refine RD.qq rfl rfl rfl rfl (QRun.ent ((Ent.pull_drop (is := [1]) rfl).trans (Ent.cons (view_of_vec.trans (view_cells (by omega))) (Ent.refl _))) (q_loadCA (us := pg[i].cells) (j := i * 39) rfl ag_54 ts_54 rfl (i := 0) rfl (by rw [pgs_length (fun p hp => (hpg p hp).1.ok.pay)]; omega) (pgs_get (fun p hp => (hpg p hp).1.ok.pay) hi))) (by first | exact Ent.refl _ | exact Ent.pull_drop (is := [2, 2]) rfl) ?_
          refine RD.pp rfl rfl rfl rfl (p_aggneq (p := True) rfl key54 rfl rfl (plain_any hiF.2.2 hiF.1 hiF.2.1) (plain_any hiF.2.2 hiF.1 hiF.2.1) ⟨fun _ => rfl, fun _ => trivial⟩) ?_
          refine RD.nil ?_
          refine hK36 _ _ ?_
          refine T.known 145 rfl (show _ = Value.bool false from congrArg Value.bool (decide_eq_false (fun h => h trivial))) ?_
          refine T.cond_f rfl ?_
          refine T.skip ?_
          refine hK35 _ _ ?_
          refine T.region (l := [0, 1, 2]) rfl ?_
          refine RN.qq rfl rfl rfl rfl (PRun.q (p_move rfl (by conv => lhs; whnf))) ?_
          refine RN.qq rfl rfl rfl rfl (PRun.q (by first | exact (p_addN (b := 1) rfl rfl rfl (by omega)) | exact (p_add rfl rfl rfl (by omega)))) ?_
          refine RN.qq rfl rfl rfl rfl (PRun.q (p_assign rfl (by conv => lhs; whnf))) ?_
          refine RN.nil ?_
          refine ⟨i + 1, (by omega), (by omega), (LiveIs.cons rfl (LiveIs.cons rfl (LiveIs.cons rfl (LiveIs.cons rfl LiveIs.nil)))), Ent.refl _⟩
        ·
          refine T.exit ?_
          refine Post.seq_x ?_
          refine Post.seq_x ?_
          refine Post.block_hit ?_
          refine hK30 _ _ ?_
          refine T.seq fun K37 hK37 => ?_
          refine T.region (l := [0, 1, 2]) rfl ?_
          refine RN.qq rfl rfl rfl rfl (PRun.q (p_move rfl (by conv => lhs; whnf))) ?_
          refine RN.C [3] rfl rfl rfl rfl (c_call rfl rfl) (RJoin_spec (vec 54 39 (.slice q7 pg.length cap7) pg.length (pgs pg)) (.slice q7 pg.length cap7) pg view_of_vec (fun p hp => (hpg p hp).1) (by omega)) rfl ?_
          rintro v147 _ ⟨kb, rb, hkb, hrb, hv147, honeb, rfl⟩
          refine RN.qq rfl rfl rfl rfl (PRun.q (p_assign rfl (by conv => lhs; whnf))) ?_
          refine RN.nil ?_
          refine hK37 _ _ ?_
          refine T.seq fun K38 hK38 => ?_
          refine T.seq fun K39 hK39 => ?_
          have hab : ra.map (fun s => (s.key, s.bytes)) = rb.map (fun s => (s.key, s.bytes)) := by rw [hra, hrb, hka.unique hkb]
          have lab := same_len hab
          refine T.region (l := [0, 1, 2, 3, 4]) rfl ?_
          refine RN.qq rfl rfl rfl rfl (PRun.q (p_move rfl (by conv => lhs; whnf))) ?_
          refine RN.qq rfl rfl rfl rfl (q_len_vec rfl Try.underlying58 rfl (i := 3) rfl) ?_
          refine RN.qq rfl rfl rfl rfl (PRun.q (p_move rfl (by conv => lhs; whnf))) ?_
          refine RN.qq rfl rfl rfl rfl (q_len_vec rfl Try.underlying68 rfl (i := 0) rfl) ?_
          refine RN.qq rfl rfl rfl rfl (PRun.q (p_neq rfl rfl rfl)) ?_
          refine RN.nil ?_
          refine hK39 _ _ ?_
          refine T.known 152 rfl (show _ = Value.bool false from congrArg Value.bool (decide_eq_false (fun h => h (by omega)))) ?_
          refine T.cond_f rfl ?_
          refine T.skip ?_
          refine hK38 _ _ ?_
          refine T.seq fun K40 hK40 => ?_
          refine T.seq fun K41 hK41 => ?_
          refine T.region (l := [0]) rfl ?_
          refine RN.qq rfl rfl rfl rfl (PRun.q (p_assign rfl (by conv => lhs; whnf))) ?_
          refine RN.nil ?_
          refine hK41 _ _ ?_
          refine T.block ?_
          refine T.loop (G := Nat) (fun m => m ≤ rb.length) (fun m => [(11, v130), (13, v147), (14, intV m)]) (fun m => [vec 57 4 v147 rb.length ((rb.map Sm.cells).flatten), sep (rb.map Sm.own), vec 51 4 v130 ra.length ((ra.map Sm.cells).flatten), sep (ra.map Sm.own), A, Fr]) (fun m => rb.length - m) 0 (Nat.zero_le _) (LiveIs.cons rfl (LiveIs.cons rfl (LiveIs.cons rfl LiveIs.nil))) (Ent.pull_drop (is := [0, 0, 1, 1, 2, 2]) rfl) ?_
          rintro m e42 hmr
          refine T.seq fun K43 hK43 => ?_
          refine T.seq fun K44 hK44 => ?_
          refine T.region (l := [0, 1, 2, 3]) rfl ?_
          refine RN.qq rfl rfl rfl rfl (PRun.q (p_move rfl (by conv => lhs; whnf))) ?_
          refine RN.qq rfl rfl rfl rfl (PRun.q (p_move rfl (by conv => lhs; whnf))) ?_
          refine RN.qq rfl rfl rfl rfl (q_len_vec rfl Try.underlying68 rfl (i := 0) rfl) ?_
          refine RN.qq rfl rfl rfl rfl (PRun.q (p_lss rfl rfl rfl)) ?_
          refine RN.nil ?_
          refine hK44 _ _ ?_
          first | refine T.cond_dec rfl (fun h156 => ?_) (fun h156 => ?_) | refine T.cond rfl (fun h156 => ?_) (fun h156 => ?_)
          ·
            have hm : m < rb.length := by omega
            have hma : m < ra.length := by omega
            obtain ⟨ekb, ebb⟩ := same_at hab hma hm
            refine T.openVec 0 rfl (by omega) ?_
            rintro bB capB restB rfl b1 b2 b3
            refine T.openVec 2 rfl (by omega) ?_
            rintro bA capA restA rfl a1 a2 a3
            refine T.ent ((Ent.pull_drop (is := [3, 1, 0, 0, 0, 0]) rfl).trans (Ent.unflat [sep (ra.map Sm.own), sep (rb.map Sm.own)] [row bB 57 (((rb.map Sm.cells).flatten) ++ restB), row bA 51 (((ra.map Sm.cells).flatten) ++ restA), A, Fr])) ?_
            refine T.skip ?_
            refine hK43 _ _ ?_
            refine T.seq fun K45 hK45 => ?_
            refine T.block ?_
            refine T.seq fun K46 hK46 => ?_
            refine T.regionD (z := 8) (Bs := [row bB 57 (((rb.map Sm.cells).flatten) ++ restB), row bA 51 (((ra.map Sm.cells).flatten) ++ restA)]) (l := [(0, .pure), (1, .pure), (2, .pure), (3, .load), (4, .pure), (5, .pure), (6, .pure), (7, .load), (8, .eff), (9, .pure)]) mixed (by kernel_rfl) (by first | exact Ent.refl _ | exact Ent.pull_drop (is := [1, 1]) rfl) ?_
            refine RD.pp rfl rfl rfl rfl (p_move rfl (by conv => lhs; whnf)) ?_
            refine RD.pp rfl rfl rfl rfl (p_move rfl (by conv => lhs; whnf)) ?_
            refine RD.pp rfl rfl rfl rfl (by first | exact (p_indexAddrN rfl Try.underlying58 ts_51 rfl rfl (by omega)) | exact (p_indexAddr rfl Try.underlying58 ts_51 rfl rfl (by omega))) ?_
            refine RD.qq rfl rfl rfl rfl (q_loadA (vs := ra[m].cells) rfl ag_51 ts_51 rfl (i := 1) rfl (by rw [List.length_append, flat_len4 Sm.four]; omega) (flat_getR Sm.four hma)) (by first | exact Ent.refl _ | exact Ent.pull_drop (is := [1, 1]) rfl) ?_
            refine RD.pp rfl rfl rfl rfl (p_move rfl (by conv => lhs; whnf)) ?_
            refine RD.pp rfl rfl rfl rfl (p_move rfl (by conv => lhs; whnf)) ?_
            refine RD.pp rfl rfl rfl rfl (by first | exact (p_indexAddrN rfl Try.underlying68 ts_57 rfl rfl (by omega)) | exact (p_indexAddr rfl Try.underlying68 ts_57 rfl rfl (by omega))) ?_
            refine RD.qq rfl rfl rfl rfl (q_loadA (vs := rb[m].cells) rfl ag_57 ts_57 rfl (i := 0) rfl (by rw [List.length_append, flat_len4 Sm.four]; omega) (flat_getR Sm.four hm)) (by first | exact Ent.refl _ | exact Ent.pull_drop (is := [1, 1]) rfl) ?_
            refine RD.C [0] rfl rfl rfl rfl (c_call rfl rfl) (same_spec ra[m].key.kind ra[m].key.epoch ra[m].key.group rb[m].key.kind rb[m].key.epoch rb[m].key.group (sep [sep (ra.map Sm.own), sep (rb.map Sm.own)]) ra[m].v rb[m].v ra[m].bytes rb[m].bytes ((Ent.head _ _).trans (own_view hma)) ((Ent.drop _ _).trans ((Ent.head _ _).trans (own_view hm)))) rfl (fun _ _ _ => .inr rfl) ?_
            rintro _ _ ⟨rfl, rfl⟩
            refine RD.pp rfl rfl rfl rfl (by first | exact (p_not_dec rfl rfl) | exact (p_not rfl rfl)) ?_
            refine RD.nil ?_
            refine hK46 _ _ ?_
            refine T.known 168 rfl (show _ = Value.bool false from congrArg Value.bool (decide_eq_false (fun h => h ⟨by rw [ekb], by rw [ekb], by rw [ekb], ebb⟩))) ?_
            refine T.cond_f rfl ?_
            refine T.skip ?_
            refine hK45 _ _ ?_
            refine T.region (l := [0, 1, 2]) rfl ?_
            refine RN.qq rfl rfl rfl rfl (PRun.q (p_move rfl (by conv => lhs; whnf))) ?_
            refine RN.qq rfl rfl rfl rfl (PRun.q (by first | exact (p_addN (b := 1) rfl rfl rfl (by omega)) | exact (p_add rfl rfl rfl (by omega)))) ?_
            refine RN.qq rfl rfl rfl rfl (PRun.q (p_assign rfl (by conv => lhs; whnf))) ?_
            refine RN.nil ?_
            refine ⟨m + 1, (by omega), (by omega), (LiveIs.cons rfl (LiveIs.cons rfl (LiveIs.cons rfl LiveIs.nil))), ?_⟩
            refine (Ent.flat [sep (ra.map Sm.own), sep (rb.map Sm.own)] [row bB 57 (((rb.map Sm.cells).flatten) ++ restB), row bA 51 (((ra.map Sm.cells).flatten) ++ restA), A, Fr]).trans ((Ent.pull_drop (is := [2, 1, 1, 0, 0, 0]) rfl).trans ?_)
            exact Ent.cons (vec_of_row (flat_len4 Sm.four _) b1 b2 b3) (Ent.cons (Ent.refl _) (Ent.cons (vec_of_row (flat_len4 Sm.four _) a1 a2 a3) (Ent.refl _)))
          ·
            refine T.exit ?_
            refine Post.seq_x ?_
            refine Post.seq_x ?_
            refine Post.block_hit ?_
            refine hK40 _ _ ?_
            refine T.seq fun K47 hK47 => ?_
            refine T.region (l := [0]) rfl ?_
            refine RN.qq rfl rfl rfl rfl (PRun.q (p_assign rfl (by conv => lhs; whnf))) ?_
            refine RN.nil ?_
            refine hK47 _ _ ?_
            refine T.ret ?_
            refine bodyQ_ret [A] (RetRun.tmp RetRun.nil) ⟨rfl, rfl⟩ (Ent.pull_drop (is := [4, 4]) rfl)

end Go.Proofs.Yticfabhcfdmbjaa
