/-
  Pages compared; what leaf.Cut gives, in one form; a stream's own pages. It proves nothing of the program by itself.
-/
import Derived.Test.YticfabhcfdmbjaaYtKey
import Derived.Test.YticfabhcfdmbjaaModelJ
set_option linter.unusedVariables false
set_option linter.unusedSimpArgs false
namespace Go.Mo
open Go Go.Sl
theorem cut_fit {kind epoch group : Int} {l : List UInt8} (hE : U32 epoch) (hG : U32 group) (hlen : l.length ≤ 65536) : ∀ p ∈ cutL kind epoch group l (pagesN l.length), p.fit ∧ U32 p.seq ∧ p.kind = kind := by
  intro p hp
  obtain ⟨i, hi, rfl⟩ := mem_cutL.1 hp
  have h2 := pagesN_le hlen
  refine ⟨⟨⟨pad32_length _, ?_, ?_, ?_⟩, hE, hG⟩, ?_, rfl⟩
  · show 0 ≤ (l.length : Int) ∧ (l.length : Int) < 4294967296
    omega
  · show 0 ≤ (i : Int) ∧ (i : Int) < 4294967296
    omega
  · show 0 ≤ (pagesN l.length : Int) ∧ (pagesN l.length : Int) < 4294967296
    omega
  · show 0 ≤ (0 : Int) ∧ (0 : Int) < 4294967296
    omega
theorem pgs_get' {l : List Pg} {rest : List Value} (h : ∀ p ∈ l, p.pay.length = 32) {i : Nat} (hi : i < l.length) : ((pgs l ++ rest).drop (0 + i * 39)).take 39 = l[i].cells := by
  have hl := pgs_length h
  have h1 := pgs_get h hi
  have h2 : ((pgs l).drop (i * 39)).length = l.length * 39 - i * 39 := by rw [List.length_drop, hl]
  rw [Nat.zero_add, List.drop_append_of_le_length (by omega), List.take_append_of_le_length (by omega), h1]
theorem one_of {rs : List Sm} {k : Ky} {b : List UInt8} (h : rs.map (fun s => (s.key, s.bytes)) = [(k, b)]) : ∃ s, rs = [s] ∧ s.key = k ∧ s.bytes = b := by
  cases rs with
  | nil => cases h
  | cons s t =>
    rw [List.map_cons] at h
    injection h with h1 h2
    obtain rfl : t = [] := List.map_eq_nil_iff.1 h2
    injection h1 with h3 h4
    exact ⟨s, rfl, h3, h4⟩
end Go.Mo
namespace Go.Proofs.Yticfabhcfdmbjaa
open Go Go.Sl Go.Mo
theorem key54 : KeyTy Try.prog 54 := ⟨by kernel_rfl, by kernel_rfl, by kernel_rfl, by kernel_rfl⟩
theorem plain_pay2 {l : List UInt8} (h : l.length = 32) : ∃ L, Try.prog.keyLits 2 52 (l.map u8V) = some L := by
  unfold Program.keyLits
  rw [Try.underlying52]
  have hc : Try.prog.cellsOf 52 = 32 := by kernel_rfl
  have h5 : Try.prog.cellsOf 5 = 1 := by kernel_rfl
  simp only [hc, h5, List.length_map, h, if_true]
  have hall : ∀ i ∈ List.range 32, ∃ L, Try.prog.keyLits 1 5 (((l.map u8V).drop (i * 1)).take 1) = some L := by
    intro i hi
    have hi2 : i < (l.map u8V).length := by simp [h]; simpa using hi
    rw [Nat.mul_one, List.drop_eq_getElem_cons hi2, List.take_succ_cons, List.take_zero, List.getElem_map]
    exact plain_u8 0
  obtain ⟨ls, ha⟩ : ∃ ls, (List.range 32).mapM (fun i => Try.prog.keyLits 1 5 (((l.map u8V).drop (i * 1)).take 1)) = some ls := mapM_ok hall
  exact ⟨_, by rw [ha]; rfl⟩
theorem plain_pg {p : Pg} (hv : p.kind = 2 ∨ p.kind = 3) (hf : p.fit) (hq : U32 p.seq) : Plain Try.prog 54 p.cells := by
  obtain ⟨L, hL⟩ := plain_pay2 hf.ok.pay
  refine ⟨3, ?_⟩
  unfold Program.keyLits
  rw [Try.underlying54]
  have hc : Try.prog.cellsOf 54 = 39 := by kernel_rfl
  have c3 : Try.prog.cellsOf 3 = 1 := by kernel_rfl
  have c48 : Try.prog.cellsOf 48 = 1 := by kernel_rfl
  have c52 : Try.prog.cellsOf 52 = 32 := by kernel_rfl
  have hpl : (p.pay.map u8V).take 32 = p.pay.map u8V := List.take_of_length_le (by rw [List.length_map, hf.ok.pay]; exact Nat.le_refl _)
  refine ⟨[.int .i64 p.kind, .int .u32 p.lba, .int .u32 p.seq, .int .u32 p.epoch, .int .u32 p.group, .int .u32 p.index, .int .u32 p.total] ++ (L ++ []), ?_⟩
  simp only [hc, Pg.cells_length hf.ok.pay]
  rw [if_pos ⟨trivial, by decide +kernel⟩]
  simp only [Pg.cells, List.cons_append, List.nil_append, List.mapM_cons, List.mapM_nil, c3, c48, c52, List.drop_zero, List.drop_succ_cons, List.take_succ_cons, List.take_zero, lits_i64 1 hv, lits_u32 1 hf.ok.lba, lits_u32 1 hq, lits_u32 1 hf.epoch, lits_u32 1 hf.group, lits_u32 1 hf.ok.index, lits_u32 1 hf.ok.total, hpl, hL]
  rfl
theorem Cut_tot (kind epoch group : Int) (A : Assn) (bv : Value) (l : List UInt8) (hA : Ent A (view 1 bv l.length (l.map u8V))) : Ctr Try.prog 24 [.agg (strm kind epoch group bv).toArray] [A]
    (fun v Ps => ∃ (pv : Value) (er : Int) (pages : List Pg), v = .tuple #[pv, .int .i64 er] ∧ pv.oneCell' = true ∧ Ps = [vec 54 39 pv pages.length (pgs pages), A] ∧
      ((kind ≠ 2 ∧ kind ≠ 3) ∧ er = 1 ∧ pages = [] ∨ (kind = 2 ∨ kind = 3) ∧ 65536 < l.length ∧ er = 2 ∧ pages = [] ∨ (kind = 2 ∨ kind = 3) ∧ l.length ≤ 65536 ∧ er = 0 ∧ pages = cutL kind epoch group l (pagesN l.length))) :=
  (Cut_spec kind epoch group A bv l hA).mono (Ent.refl _) (fun v Ps h => by
    unfold CutQ at h
    by_cases hk : kind ≠ 2 ∧ kind ≠ 3
    · rw [if_pos hk] at h
      obtain ⟨rfl, rfl⟩ := h
      exact ⟨_, ⟨_, 1, [], rfl, rfl, rfl, .inl ⟨hk, rfl, rfl⟩⟩, Ent.vec_nil'⟩
    · rw [if_neg hk] at h
      have hk' : kind = 2 ∨ kind = 3 := by omega
      by_cases hl : 65536 < l.length
      · rw [if_pos hl] at h
        obtain ⟨rfl, rfl⟩ := h
        exact ⟨_, ⟨_, 2, [], rfl, rfl, rfl, .inr (.inl ⟨hk', hl, rfl, rfl⟩)⟩, Ent.vec_nil'⟩
      · rw [if_neg hl] at h
        obtain ⟨pv, rfl, hv, rfl⟩ := h
        exact ⟨_, ⟨pv, 0, _, rfl, hv, rfl, .inr (.inr ⟨hk', by omega, rfl, rfl⟩)⟩, Ent.of_eq (by rw [cutL_length])⟩)
end Go.Proofs.Yticfabhcfdmbjaa
