/-
 The reference of scripts, line by line: walked.
-/
import Derived.Test.YtokbjejbgbdkoaaGreatDoorGYrD1
set_option linter.unusedVariables false
set_option linter.unusedSimpArgs false
namespace Go.Proofs.YtokbjejbgbdkoaaGreatDoor
open Go Go.Sl Go.Proofs
set_option maxRecDepth 20000
open Go.Mo Go.Proofs Go.Shelf Go.RowKit
/-- A kind's letter as a value. -/
def kC (k : Nat) : Value := .int .u8 (k : Int)
/-- A command of the reference's, cell by cell. -/
def rcC (c : Cm) : List Value := [kC c.kind, iC c.a, iC c.b, strV c.data]
/-- Which command a word begins, writes too. -/
def KindW (l : List UInt8) (many kind : Nat) : Prop := (kind ≠ 119 ∧ KindQ l many kind ∧ kind ≠ 0) ∨ (kind = 119 ∧ many = 2 ∧ (wordF l).1 = wWrite)
theorem kw_le {l : List UInt8} {many kind : Nat} (h : KindW l many kind) : many ≤ 2 := by
 rcases h with ⟨_, h, _⟩ | ⟨_, h, _⟩
 · exact kq_le h
 · omega
theorem kw_none {l : List UInt8} {many kind : Nat} (h : KindW l many kind) (hn : numsF many (wordF l).2 = none) : lineF l = none := by
 rcases h with ⟨_, h, _⟩ | ⟨_, rfl, h⟩
 · exact line_none h hn
 · rw [line_write h]; exact write_none hn
theorem kw_write {l : List UInt8} (h : (wordF l).1 = wWrite) : KindW l 2 119 := .inr ⟨rfl, rfl, h⟩
theorem kw_of {l : List UInt8} {many kind : Nat} (h : KindQ l many kind) (h0 : kind ≠ 0) (h1 : kind ≠ 119) : KindW l many kind := .inl ⟨h1, h, h0⟩
theorem write_ne {l : List UInt8} {x : List UInt8} (h : (wordF l).1 = x) (hx : x ≠ wWrite) : (wordF l).1 ≠ wWrite := by rw [h]; exact hx
theorem kq_show {l : List UInt8} (h : (wordF l).1 = wShow) : KindQ l 0 115 := ⟨by rw [h]; decide, .inr (.inr (.inr (.inr (.inr ⟨rfl, by rw [h]; decide, by rw [h]; decide, by rw [h]; decide, by rw [h]; decide, by rw [h]; decide, .inl ⟨rfl, h⟩⟩))))⟩
theorem kq_stat {l : List UInt8} (h : (wordF l).1 = wStat) : KindQ l 0 105 := ⟨by rw [h]; decide, .inr (.inr (.inr (.inr (.inr ⟨rfl, by rw [h]; decide, by rw [h]; decide, by rw [h]; decide, by rw [h]; decide, by rw [h]; decide, .inr (.inl ⟨rfl, h⟩)⟩))))⟩
theorem line_other {l : List UInt8} (h1 : (wordF l).1 ≠ wWrite) (h2 : (wordF l).1 ≠ wRead) (h3 : (wordF l).1 ≠ wTrim) (h4 : (wordF l).1 ≠ wCut) (h5 : (wordF l).1 ≠ wFail) (h6 : (wordF l).1 ≠ wMount) (h7 : (wordF l).1 ≠ wShow) (h8 : (wordF l).1 ≠ wStat) : lineF l = none := by
 unfold lineF
 rw [if_neg h1, if_neg h2, if_neg h3, if_neg h4, if_neg h5, if_neg h6, if_neg h7, if_neg h8]
theorem rd_nil {s : List UInt8} {n e : Nat} (h : RdQ [] s n e) : e = 3 := by
 rcases h with ⟨_, tl, h, _⟩ | ⟨h, _⟩
 · exact absurd h (by unfold Qt; simp)
 · exact h
theorem getD_push0 {v : Int} : ([] ++ [v] : List Int).getD 0 0 = v ∧ ([] ++ [v] : List Int).getD 1 0 = 0 := ⟨rfl, rfl⟩
theorem clear_lead {l : List UInt8} {p : Nat} (hp : p ≤ l.length) (hc : Clear (fun c => ¬ blankL c) l p) (h : p = l.length ∨ ∃ hp : p < l.length, ¬ blankL l[p]) : p = lead l := by
 have h2 : First (fun c => ¬ blankL c) l p := ⟨hp, hc, fun hn => by
  rcases h with h | ⟨_, h⟩
  · omega
  · exact h⟩
 exact h2.unique (first_lead l)
theorem rc_one {k : Nat} {a b : Int} {s : List UInt8} : ∀ u ∈ [kC k, iC a, iC b, strV s], u.oneCell' = true := fun u hu => by
 simp only [List.mem_cons, List.not_mem_nil, or_false] at hu
 rcases hu with rfl | rfl | rfl | rfl <;> rfl

theorem RLine_spec (l : List UInt8) (hl : l.length ≤ 100000000) (hnl : NoNl l) : Ctr Tryz.prog 17 [strV l] [] (fun w Ps => ∃ cs ok, w = .tuple #[.agg cs.toArray, .bool ok] ∧ cs.length = 4 ∧ (∀ u ∈ cs, u.oneCell' = true) ∧ ((ok = true ∧ ∃ c, lineF l = some c ∧ cs = rcC c) ∨ (ok = false ∧ lineF l = none)) ∧ Ps = []) := by
 refine Ctr.of_body Tryz.func17 rfl (by kernel_rfl) Tryz.ntmps17 rfl rfl (fun Fr => ?_)
 have hwl := word_len l
 have hnw := hnl.rest
 refine T.seq fun K1 hK1 => ?_
 refine T.region (l := [0, 1]) rfl ?_
 refine RN.E rfl rfl rfl rfl (e_alloc rfl ti_31) ?_
 rintro _ _ ⟨b2, rfl, rfl⟩
 refine RN.a rfl ?_
 refine RN.nil ?_
 refine hK1 _ _ ?_
 refine T.seq fun K2 hK2 => ?_
 refine T.region (l := [0, 1, 2, 3, 4, 5, 6]) rfl ?_
 refine RN.m rfl ?_
 refine RN.C [] rfl rfl rfl rfl (c_call rfl rfl) (RWord_f l (by omega)) rfl ?_
 rintro _ _ ⟨rfl, rfl⟩
 refine RN.m rfl ?_
 refine RN.p rfl (p_extract rfl rfl rfl) ?_
 refine RN.p rfl (p_extract rfl rfl rfl) ?_
 refine RN.a rfl ?_
 refine RN.a rfl ?_
 refine RN.nil ?_
 refine hK2 _ _ ?_
 refine T.seq fun K3 hK3 => ?_
 refine T.region (l := [0, 1, 2]) rfl ?_
 refine RN.p rfl (p_build rfl pl_31 ti_31 (by dsimp [layAll, lay]; rfl)) ?_
 refine RN.E rfl rfl rfl rfl (e_alloc rfl ti_31) ?_
 rintro _ _ ⟨b6, rfl, rfl⟩
 refine RN.EN rfl rfl rfl (e_storeA (vs := [kC 0, iC 0, iC 0, strV []]) rfl ts_31 rfl rfl rfl rc_one (i := 0) rfl (Nat.le_refl 4)) ?_
 rintro _ _ ⟨rfl, rfl⟩
 refine RN.nil ?_
 refine hK3 _ _ ?_
 refine T.seq fun K4 hK4 => ?_
 refine T.region (l := [0]) rfl ?_
 refine RN.a rfl ?_
 refine RN.nil ?_
 refine hK4 _ _ ?_
 refine T.cut (G := Nat × Nat) (fun ⟨many, kind⟩ => KindW l many kind) (fun ⟨many, kind⟩ => [(2, ptr b2 0), (6, ptr b6 0), (5, strV (wordF l).2), (7, intV many)]) (fun ⟨many, kind⟩ => [row b6 31 ([kC kind, iC 0, iC 0, strV []]), row b2 31 [kC 0, iC 0, iC 0, strV []], Fr]) ?_ ?_
 ·
  refine T.seq fun K6 hK6 => ?_
  refine T.region (l := [0]) rfl ?_
  refine RN.m rfl ?_
  refine RN.nil ?_
  refine hK6 _ _ ?_
  refine T.block ?_
  refine T.seq fun K7 hK7 => ?_
  refine T.seq fun K8 hK8 => ?_
  refine T.region (l := [0, 1]) rfl ?_
  refine RN.p rfl (p_seql rfl rfl rfl) ?_
  refine RN.a rfl ?_
  refine RN.nil ?_
  refine hK8 _ _ ?_
  first | refine T.cond_dec rfl (fun h25 => ?_) (fun h25 => ?_) | refine T.cond rfl (fun h25 => ?_) (fun h25 => ?_)
  ·
   first | refine T.known 25 rfl (congrArg Value.bool (decide_eq_true h25)) ?_ | refine T.known 25 rfl (congrArg Value.bool h25) ?_
   refine T.skip ?_
   refine hK7 _ _ ?_
   refine T.cond_t rfl ?_
   refine T.seq fun K9 hK9 => ?_
   refine T.region (l := [0, 1, 2, 3]) rfl ?_
   refine RN.m rfl ?_
   refine RN.p rfl (p_indexN_s (n := 0) (b := 114) rfl Tryz.underlying9 rfl rfl (by rw [h25]; rfl)) ?_
   refine RN.p rfl (p_fieldAddr rfl fa_31_0 rfl) ?_
   refine RN.EN rfl rfl rfl (e_store rfl ts_5 rfl (by conv => lhs; whnf) (by first | rfl | assumption) (i := 0) rfl (Nat.lt_of_lt_of_le (by decide) (Nat.le_refl 4))) ?_
   rintro _ _ ⟨rfl, rfl⟩
   refine RN.nil ?_
   refine hK9 _ _ ?_
   refine T.region (l := [0]) rfl ?_
   refine RN.a rfl ?_
   refine RN.nil ?_
   refine ⟨(2, 114), (kw_of (kq_read (write_ne h25 (by decide)) h25) (by decide) (by decide)), (LiveIs.cons rfl (LiveIs.cons rfl (LiveIs.cons rfl (LiveIs.cons rfl LiveIs.nil)))), Ent.refl _⟩
  ·
   first | refine T.known 25 rfl (congrArg Value.bool (decide_eq_false h25)) ?_ | refine T.known 25 rfl (congrArg Value.bool h25) ?_
   refine T.seq fun K10 hK10 => ?_
   refine T.region (l := [0, 1]) rfl ?_
   refine RN.p rfl (p_seql rfl rfl rfl) ?_
   refine RN.a rfl ?_
   refine RN.nil ?_
   refine hK10 _ _ ?_
   first | refine T.cond_dec rfl (fun h25 => ?_) (fun h25 => ?_) | refine T.cond rfl (fun h25 => ?_) (fun h25 => ?_)
   ·
    first | refine T.known 25 rfl (congrArg Value.bool (decide_eq_true h25)) ?_ | refine T.known 25 rfl (congrArg Value.bool h25) ?_
    refine T.skip ?_
    refine hK7 _ _ ?_
    refine T.cond_t rfl ?_
    refine T.seq fun K11 hK11 => ?_
    refine T.region (l := [0, 1, 2, 3]) rfl ?_
    refine RN.m rfl ?_
    refine RN.p rfl (p_indexN_s (n := 0) (b := 116) rfl Tryz.underlying9 rfl rfl (by rw [h25]; rfl)) ?_
    refine RN.p rfl (p_fieldAddr rfl fa_31_0 rfl) ?_
    refine RN.EN rfl rfl rfl (e_store rfl ts_5 rfl (by conv => lhs; whnf) (by first | rfl | assumption) (i := 0) rfl (Nat.lt_of_lt_of_le (by decide) (Nat.le_refl 4))) ?_
    rintro _ _ ⟨rfl, rfl⟩
    refine RN.nil ?_
    refine hK11 _ _ ?_
    refine T.region (l := [0]) rfl ?_
    refine RN.a rfl ?_
    refine RN.nil ?_
    refine ⟨(2, 116), (kw_of (kq_trim (write_ne h25 (by decide)) h25) (by decide) (by decide)), (LiveIs.cons rfl (LiveIs.cons rfl (LiveIs.cons rfl (LiveIs.cons rfl LiveIs.nil)))), Ent.refl _⟩
   ·
    first | refine T.known 25 rfl (congrArg Value.bool (decide_eq_false h25)) ?_ | refine T.known 25 rfl (congrArg Value.bool h25) ?_
    refine T.region (l := [0, 1]) rfl ?_
    refine RN.p rfl (p_seql rfl rfl rfl) ?_
    refine RN.a rfl ?_
    refine RN.nil ?_
    refine hK7 _ _ ?_
    first | refine T.cond_dec rfl (fun h25 => ?_) (fun h25 => ?_) | refine T.cond rfl (fun h25 => ?_) (fun h25 => ?_)
    ·
     first | refine T.known 25 rfl (congrArg Value.bool (decide_eq_true h25)) ?_ | refine T.known 25 rfl (congrArg Value.bool h25) ?_
     refine T.seq fun K12 hK12 => ?_
     refine T.region (l := [0, 1, 2, 3]) rfl ?_
     refine RN.m rfl ?_
     refine RN.p rfl (p_indexN_s (n := 0) (b := 119) rfl Tryz.underlying9 rfl rfl (by rw [h25]; rfl)) ?_
     refine RN.p rfl (p_fieldAddr rfl fa_31_0 rfl) ?_
     refine RN.EN rfl rfl rfl (e_store rfl ts_5 rfl (by conv => lhs; whnf) (by first | rfl | assumption) (i := 0) rfl (Nat.lt_of_lt_of_le (by decide) (Nat.le_refl 4))) ?_
     rintro _ _ ⟨rfl, rfl⟩
     refine RN.nil ?_
     refine hK12 _ _ ?_
     refine T.region (l := [0]) rfl ?_
     refine RN.a rfl ?_
     refine RN.nil ?_
     refine ⟨(2, 119), (kw_write h25), (LiveIs.cons rfl (LiveIs.cons rfl (LiveIs.cons rfl (LiveIs.cons rfl LiveIs.nil)))), Ent.refl _⟩
    ·
     first | refine T.known 25 rfl (congrArg Value.bool (decide_eq_false h25)) ?_ | refine T.known 25 rfl (congrArg Value.bool h25) ?_
     refine T.seq fun K13 hK13 => ?_
     refine T.seq fun K14 hK14 => ?_
     refine T.region (l := [0, 1]) rfl ?_
     refine RN.p rfl (p_seql rfl rfl rfl) ?_
     refine RN.a rfl ?_
     refine RN.nil ?_
     refine hK14 _ _ ?_
     first | refine T.cond_dec rfl (fun h32 => ?_) (fun h32 => ?_) | refine T.cond rfl (fun h32 => ?_) (fun h32 => ?_)
     ·
      first | refine T.known 32 rfl (congrArg Value.bool (decide_eq_true h32)) ?_ | refine T.known 32 rfl (congrArg Value.bool h32) ?_
      refine T.skip ?_
      refine hK13 _ _ ?_
      refine T.cond_t rfl ?_
      refine T.seq fun K15 hK15 => ?_
      refine T.region (l := [0, 1, 2, 3]) rfl ?_
      refine RN.m rfl ?_
      refine RN.p rfl (p_indexN_s (n := 0) (b := 99) rfl Tryz.underlying9 rfl rfl (by rw [h32]; rfl)) ?_
      refine RN.p rfl (p_fieldAddr rfl fa_31_0 rfl) ?_
      refine RN.EN rfl rfl rfl (e_store rfl ts_5 rfl (by conv => lhs; whnf) (by first | rfl | assumption) (i := 0) rfl (Nat.lt_of_lt_of_le (by decide) (Nat.le_refl 4))) ?_
      rintro _ _ ⟨rfl, rfl⟩
      refine RN.nil ?_
      refine hK15 _ _ ?_
      refine T.region (l := [0]) rfl ?_
      refine RN.a rfl ?_
      refine RN.nil ?_
      refine ⟨(1, 99), (kw_of (kq_cut (write_ne h32 (by decide)) h32) (by decide) (by decide)), (LiveIs.cons rfl (LiveIs.cons rfl (LiveIs.cons rfl (LiveIs.cons rfl LiveIs.nil)))), Ent.refl _⟩
     ·
      first | refine T.known 32 rfl (congrArg Value.bool (decide_eq_false h32)) ?_ | refine T.known 32 rfl (congrArg Value.bool h32) ?_
      refine T.region (l := [0, 1]) rfl ?_
      refine RN.p rfl (p_seql rfl rfl rfl) ?_
      refine RN.a rfl ?_
      refine RN.nil ?_
      refine hK13 _ _ ?_
      first | refine T.cond_dec rfl (fun h32 => ?_) (fun h32 => ?_) | refine T.cond rfl (fun h32 => ?_) (fun h32 => ?_)
      ·
       first | refine T.known 32 rfl (congrArg Value.bool (decide_eq_true h32)) ?_ | refine T.known 32 rfl (congrArg Value.bool h32) ?_
       refine T.seq fun K16 hK16 => ?_
       refine T.region (l := [0, 1, 2, 3]) rfl ?_
       refine RN.m rfl ?_
       refine RN.p rfl (p_indexN_s (n := 0) (b := 102) rfl Tryz.underlying9 rfl rfl (by rw [h32]; rfl)) ?_
       refine RN.p rfl (p_fieldAddr rfl fa_31_0 rfl) ?_
       refine RN.EN rfl rfl rfl (e_store rfl ts_5 rfl (by conv => lhs; whnf) (by first | rfl | assumption) (i := 0) rfl (Nat.lt_of_lt_of_le (by decide) (Nat.le_refl 4))) ?_
       rintro _ _ ⟨rfl, rfl⟩
       refine RN.nil ?_
       refine hK16 _ _ ?_
       refine T.region (l := [0]) rfl ?_
       refine RN.a rfl ?_
       refine RN.nil ?_
       refine ⟨(1, 102), (kw_of (kq_fail (write_ne h32 (by decide)) h32) (by decide) (by decide)), (LiveIs.cons rfl (LiveIs.cons rfl (LiveIs.cons rfl (LiveIs.cons rfl LiveIs.nil)))), Ent.refl _⟩
      ·
       first | refine T.known 32 rfl (congrArg Value.bool (decide_eq_false h32)) ?_ | refine T.known 32 rfl (congrArg Value.bool h32) ?_
       refine T.seq fun K17 hK17 => ?_
       refine T.region (l := [0, 1]) rfl ?_
       refine RN.p rfl (p_seql rfl rfl rfl) ?_
       refine RN.a rfl ?_
       refine RN.nil ?_
       refine hK17 _ _ ?_
       first | refine T.cond_dec rfl (fun h38 => ?_) (fun h38 => ?_) | refine T.cond rfl (fun h38 => ?_) (fun h38 => ?_)
       ·
        refine T.seq fun K18 hK18 => ?_
        refine T.region (l := [0, 1]) rfl ?_
        refine RN.p rfl (p_fieldAddr rfl fa_31_0 rfl) ?_
        refine RN.EN rfl rfl rfl (e_store rfl ts_5 rfl (by conv => lhs; whnf) (by first | rfl | assumption) (i := 0) rfl (Nat.lt_of_lt_of_le (by decide) (Nat.le_refl 4))) ?_
        rintro _ _ ⟨rfl, rfl⟩
        refine RN.nil ?_
        refine hK18 _ _ ?_
        refine T.seq fun K19 hK19 => ?_
        refine T.seq fun K20 hK20 => ?_
        refine T.region (l := [0, 1]) rfl ?_
        refine RN.m rfl ?_
        refine RN.C [] rfl rfl rfl rfl (c_call rfl rfl) (REmpty_spec (wordF l).2 (by omega) hnw) rfl ?_
        rintro _ _ ⟨rfl, rfl⟩
        refine RN.nil ?_
        refine hK20 _ _ ?_
        first | refine T.cond_dec rfl (fun h42 => ?_) (fun h42 => ?_) | refine T.cond rfl (fun h42 => ?_) (fun h42 => ?_)
        ·
         refine T.seq fun K21 hK21 => ?_
         refine T.region (l := [0, 1]) rfl ?_
         refine RN.p rfl (p_fieldAddr rfl fa_31_1 rfl) ?_
         refine RN.EN rfl rfl rfl (e_store rfl ts_3 rfl (by conv => lhs; whnf) (by first | rfl | assumption) (i := 0) rfl (Nat.lt_of_lt_of_le (by decide) (Nat.le_refl 4))) ?_
         rintro _ _ ⟨rfl, rfl⟩
         refine RN.nil ?_
         refine hK21 _ _ ?_
         refine T.seq fun K22 hK22 => ?_
         refine T.region (l := [0, 1, 2]) rfl ?_
         refine RN.u rfl (q_loadA (vs := [kC 109, iC (-1), iC 0, strV []]) rfl ag_31 ts_31 rfl (i := 0) rfl (Nat.le_refl 4) rfl) ?_
         refine RN.EN rfl rfl rfl (e_storeA (vs := [kC 109, iC (-1), iC 0, strV []]) rfl ts_31 rfl rfl rfl rc_one (i := 1) rfl (Nat.le_refl 4)) ?_
         rintro _ _ ⟨rfl, rfl⟩
         refine RN.a rfl ?_
         refine RN.nil ?_
         refine hK22 _ _ ?_
         refine T.ret ?_
         refine Post.seq_r ?_
         refine Post.block_r ?_
         refine Post.seq_r ?_
         refine bodyQ_ret [] (RetRun.cell rfl (load_cell (vs := [kC 109, iC (-1), iC 0, strV []]) ag_31 ts_31 (i := 1) rfl (Nat.le_refl 4) rfl) (RetRun.tmp RetRun.nil)) ⟨[kC 109, iC (-1), iC 0, strV []], true, rfl, rfl, rc_one, .inl ⟨rfl, _, line_mount0 h38 h42, rfl⟩, rfl⟩ (Ent.pull_drop (is := [2]) rfl)
        ·
         refine T.skip ?_
         refine hK19 _ _ ?_
         refine T.region (l := [0]) rfl ?_
         refine RN.a rfl ?_
         refine RN.nil ?_
         refine ⟨(1, 109), (kw_of (kq_mount (write_ne h38 (by decide)) h38 h42) (by decide) (by decide)), (LiveIs.cons rfl (LiveIs.cons rfl (LiveIs.cons rfl (LiveIs.cons rfl LiveIs.nil)))), Ent.refl _⟩
       ·
        refine T.seq fun K23 hK23 => ?_
        refine T.region (l := [0, 1]) rfl ?_
        refine RN.p rfl (p_seql rfl rfl rfl) ?_
        refine RN.a rfl ?_
        refine RN.nil ?_
        refine hK23 _ _ ?_
        first | refine T.cond_dec rfl (fun h45 => ?_) (fun h45 => ?_) | refine T.cond rfl (fun h45 => ?_) (fun h45 => ?_)
        ·
         refine T.region (l := [0, 1]) rfl ?_
         refine RN.p rfl (p_fieldAddr rfl fa_31_0 rfl) ?_
         refine RN.EN rfl rfl rfl (e_store rfl ts_5 rfl (by conv => lhs; whnf) (by first | rfl | assumption) (i := 0) rfl (Nat.lt_of_lt_of_le (by decide) (Nat.le_refl 4))) ?_
         rintro _ _ ⟨rfl, rfl⟩
         refine RN.nil ?_
         refine ⟨(0, 115), (kw_of (kq_show h45) (by decide) (by decide)), (LiveIs.cons rfl (LiveIs.cons rfl (LiveIs.cons rfl (LiveIs.cons rfl LiveIs.nil)))), Ent.refl _⟩
        ·
         refine T.seq fun K24 hK24 => ?_
         refine T.region (l := [0, 1]) rfl ?_
         refine RN.p rfl (p_seql rfl rfl rfl) ?_
         refine RN.a rfl ?_
         refine RN.nil ?_
         refine hK24 _ _ ?_
         first | refine T.cond_dec rfl (fun h48 => ?_) (fun h48 => ?_) | refine T.cond rfl (fun h48 => ?_) (fun h48 => ?_)
         ·
          refine T.region (l := [0, 1]) rfl ?_
          refine RN.p rfl (p_fieldAddr rfl fa_31_0 rfl) ?_
          refine RN.EN rfl rfl rfl (e_store rfl ts_5 rfl (by conv => lhs; whnf) (by first | rfl | assumption) (i := 0) rfl (Nat.lt_of_lt_of_le (by decide) (Nat.le_refl 4))) ?_
          rintro _ _ ⟨rfl, rfl⟩
          refine RN.nil ?_
          refine ⟨(0, 105), (kw_of (kq_stat h48) (by decide) (by decide)), (LiveIs.cons rfl (LiveIs.cons rfl (LiveIs.cons rfl (LiveIs.cons rfl LiveIs.nil)))), Ent.refl _⟩
         ·
          refine T.seq fun K25 hK25 => ?_
          refine T.region (l := [0, 1, 2]) rfl ?_
          refine RN.u rfl (q_loadA (vs := [kC 0, iC 0, iC 0, strV []]) rfl ag_31 ts_31 rfl (i := 0) rfl (Nat.le_refl 4) rfl) ?_
          refine RN.EN rfl rfl rfl (e_storeA (vs := [kC 0, iC 0, iC 0, strV []]) rfl ts_31 rfl rfl rfl rc_one (i := 1) rfl (Nat.le_refl 4)) ?_
          rintro _ _ ⟨rfl, rfl⟩
          refine RN.a rfl ?_
          refine RN.nil ?_
          refine hK25 _ _ ?_
          refine T.ret ?_
          refine Post.block_r ?_
          refine Post.seq_r ?_
          refine bodyQ_ret [] (RetRun.cell rfl (load_cell (vs := [kC 0, iC 0, iC 0, strV []]) ag_31 ts_31 (i := 1) rfl (Nat.le_refl 4) rfl) (RetRun.tmp RetRun.nil)) ⟨[kC 0, iC 0, iC 0, strV []], false, rfl, rfl, rc_one, .inr ⟨rfl, line_other (by assumption) (by assumption) (by assumption) (by assumption) (by assumption) h38 h45 h48⟩, rfl⟩ (Ent.pull_drop (is := [2]) rfl)
 ·
  rintro ⟨many, kind⟩ e5 hkw
  dsimp only at hkw ⊢
  refine T.seq fun K26 hK26 => ?_
  refine T.seq fun K27 hK27 => ?_
  refine T.region (l := [0]) rfl ?_
  refine RN.a rfl ?_
  refine RN.nil ?_
  refine hK27 _ _ ?_
  refine T.block ?_
  refine T.loop (G := Nat × List Int × List UInt8) (fun ⟨i, acc, s⟩ => i ≤ many ∧ acc.length = i ∧ s.length ≤ l.length ∧ NoNl s ∧ (i = 0 ∨ s = [] ∨ 0 < lead s) ∧ numsF many (wordF l).2 = (numsF (many - i) s).map fun x => (acc ++ x.1, x.2)) (fun ⟨i, acc, s⟩ => [(2, ptr b2 0), (6, ptr b6 0), (5, strV s), (7, intV many), (8, intV i)]) (fun ⟨i, acc, s⟩ => [row b6 31 ([kC kind, iC (acc.getD 0 0), iC (acc.getD 1 0), strV []]), row b2 31 [kC 0, iC 0, iC 0, strV []], Fr]) (fun ⟨i, acc, s⟩ => many - i) (0, [], (wordF l).2) ⟨Nat.zero_le _, rfl, hwl.2, hnw, .inl rfl, by show _ = (numsF many (wordF l).2).map fun x => (x.1, x.2); simp⟩ (LiveIs.cons rfl (LiveIs.cons rfl (LiveIs.cons rfl (LiveIs.cons rfl (LiveIs.cons rfl LiveIs.nil))))) (Ent.refl _) ?_
  rintro ⟨i, acc, s⟩ e28 ⟨him, hal, hsl, hns, hld, hnum⟩
  dsimp only
  refine T.seq fun K29 hK29 => ?_
  refine T.seq fun K30 hK30 => ?_
  refine T.region (l := [0, 1, 2]) rfl ?_
  refine RN.m rfl ?_
  refine RN.m rfl ?_
  refine RN.p rfl (p_lss rfl rfl rfl) ?_
  refine RN.nil ?_
  refine hK30 _ _ ?_
  first | refine T.cond_dec rfl (fun h53 => ?_) (fun h53 => ?_) | refine T.cond rfl (fun h53 => ?_) (fun h53 => ?_)
  ·
   have hlt : i < many := by omega
   have hm2 := kw_le hkw
   refine T.skip ?_
   refine hK29 _ _ ?_
   refine T.seq fun K31 hK31 => ?_
   refine T.block ?_
   refine T.seq fun K32 hK32 => ?_
   refine T.region (l := [0, 1, 2, 3, 4, 5, 6]) rfl ?_
   refine RN.m rfl ?_
   refine RN.C [] rfl rfl rfl rfl (c_call rfl rfl) (RWord_f s (by omega)) rfl ?_
   rintro _ _ ⟨rfl, rfl⟩
   have hws := word_len s
   refine RN.m rfl ?_
   refine RN.p rfl (p_extract rfl rfl rfl) ?_
   refine RN.p rfl (p_extract rfl rfl rfl) ?_
   refine RN.a rfl ?_
   refine RN.a rfl ?_
   refine RN.nil ?_
   refine hK32 _ _ ?_
   refine T.seq fun K33 hK33 => ?_
   refine T.region (l := [0, 1, 2, 3, 4, 5, 6]) rfl ?_
   refine RN.m rfl ?_
   refine RN.C [] rfl rfl rfl rfl (c_call rfl rfl) (RNumber_spec (wordF s).1 (by omega)) rfl ?_
   rintro _ _ ⟨v, ok, rfl, hx, rfl⟩
   refine RN.m rfl ?_
   refine RN.p rfl (p_extract rfl rfl rfl) ?_
   refine RN.p rfl (p_extract rfl rfl rfl) ?_
   refine RN.a rfl ?_
   refine RN.a rfl ?_
   refine RN.nil ?_
   refine hK33 _ _ ?_
   refine T.seq fun K34 hK34 => ?_
   refine T.seq fun K35 hK35 => ?_
   refine T.region (l := [0, 1]) rfl ?_
   refine RN.m rfl ?_
   refine RN.p rfl (by first | exact (p_not_dec rfl rfl) | exact (p_not rfl rfl)) ?_
   refine RN.nil ?_
   refine hK35 _ _ ?_
   first | refine T.cond_dec rfl (fun h67 => ?_) (fun h67 => ?_) | refine T.cond rfl (fun h67 => ?_) (fun h67 => ?_)
   ·
    have hno : numP (wordF s).1 = none := by
     rcases hx with ⟨h, _⟩ | ⟨_, h⟩
     · rw [h] at h67; simp at h67
     · exact h
    refine T.seq fun K36 hK36 => ?_
    refine T.region (l := [0, 1, 2]) rfl ?_
    refine RN.u rfl (q_loadA (vs := [kC kind, iC (acc.getD 0 0), iC (acc.getD 1 0), strV []]) rfl ag_31 ts_31 rfl (i := 0) rfl (Nat.le_refl 4) rfl) ?_
    refine RN.EN rfl rfl rfl (e_storeA (vs := [kC kind, iC (acc.getD 0 0), iC (acc.getD 1 0), strV []]) rfl ts_31 rfl rfl rfl rc_one (i := 1) rfl (Nat.le_refl 4)) ?_
    rintro _ _ ⟨rfl, rfl⟩
    refine RN.a rfl ?_
    refine RN.nil ?_
    refine hK36 _ _ ?_
    refine T.ret ?_
    refine Post.seq_r ?_
    refine Post.block_r ?_
    refine Post.seq_r ?_
    refine Post.seq_r ?_
    refine Post.block_r ?_
    refine Post.seq_r ?_
    refine bodyQ_ret [] (RetRun.cell rfl (load_cell (vs := [kC kind, iC (acc.getD 0 0), iC (acc.getD 1 0), strV []]) ag_31 ts_31 (i := 1) rfl (Nat.le_refl 4) rfl) (RetRun.tmp RetRun.nil)) ⟨[kC kind, iC (acc.getD 0 0), iC (acc.getD 1 0), strV []], false, rfl, rfl, rc_one, .inr ⟨rfl, kw_none hkw (nums_bad hlt hnum hno)⟩, rfl⟩ (Ent.pull_drop (is := [2]) rfl)
   ·
    have hyes1 : numP (wordF s).1 = some v := by
     rcases hx with ⟨_, h⟩ | ⟨h, _⟩
     · exact h
     · rw [h] at h67; simp at h67
    refine T.skip ?_
    refine hK34 _ _ ?_
    refine T.seq fun K37 hK37 => ?_
    refine T.region (l := [0, 1]) rfl ?_
    refine RN.m rfl ?_
    refine RN.a rfl ?_
    refine RN.nil ?_
    refine hK37 _ _ ?_
    refine T.seq fun K38 hK38 => ?_
    refine T.region (l := [0, 1]) rfl ?_
    refine RN.m rfl ?_
    refine RN.p rfl (p_eql rfl rfl rfl) ?_
    refine RN.nil ?_
    refine hK38 _ _ ?_
    first | refine T.cond_dec rfl (fun h71 => ?_) (fun h71 => ?_) | refine T.cond rfl (fun h71 => ?_) (fun h71 => ?_)
    ·
     obtain rfl : acc = [] := List.eq_nil_of_length_eq_zero (by omega)
     refine T.region (l := [0, 1, 2]) rfl ?_
     refine RN.m rfl ?_
     refine RN.p rfl (p_fieldAddr rfl fa_31_1 rfl) ?_
     refine RN.EN rfl rfl rfl (e_store rfl ts_3 rfl (by conv => lhs; whnf) (by first | rfl | assumption) (i := 0) rfl (Nat.lt_of_lt_of_le (by decide) (Nat.le_refl 4))) ?_
     rintro _ _ ⟨rfl, rfl⟩
     refine RN.nil ?_
     refine hK31 _ _ ?_
     refine T.region (l := [0, 1, 2]) rfl ?_
     refine RN.m rfl ?_
     refine RN.p rfl (by first | exact (p_addN (b := 1) rfl rfl rfl (by omega)) | exact (p_add rfl rfl rfl (by omega))) ?_
     refine RN.a rfl ?_
     refine RN.nil ?_
     refine ⟨(i + 1, [] ++ [v], (wordF s).2), ⟨hlt, by rw [List.length_append, hal]; rfl, by show (wordF s).2.length ≤ _; omega, hns.rest, .inr (rest_lead hns), nums_next hlt hnum hyes1⟩, (by show _ - (i + 1) < _ - i; omega), (LiveIs.cons rfl (LiveIs.cons rfl (LiveIs.cons rfl (LiveIs.cons rfl (LiveIs.cons rfl LiveIs.nil))))), Ent.refl _⟩
    ·
     obtain ⟨a0, rfl⟩ := one_acc (acc := acc) (by have := kw_le hkw; omega)
     refine T.region (l := [0, 1, 2]) rfl ?_
     refine RN.m rfl ?_
     refine RN.p rfl (p_fieldAddr rfl fa_31_2 rfl) ?_
     refine RN.EN rfl rfl rfl (e_store rfl ts_3 rfl (by conv => lhs; whnf) (by first | rfl | assumption) (i := 0) rfl (Nat.lt_of_lt_of_le (by decide) (Nat.le_refl 4))) ?_
     rintro _ _ ⟨rfl, rfl⟩
     refine RN.nil ?_
     refine hK31 _ _ ?_
     refine T.region (l := [0, 1, 2]) rfl ?_
     refine RN.m rfl ?_
     refine RN.p rfl (by first | exact (p_addN (b := 1) rfl rfl rfl (by omega)) | exact (p_add rfl rfl rfl (by omega))) ?_
     refine RN.a rfl ?_
     refine RN.nil ?_
     refine ⟨(i + 1, [a0] ++ [v], (wordF s).2), ⟨hlt, by rw [List.length_append, hal]; rfl, by show (wordF s).2.length ≤ _; omega, hns.rest, .inr (rest_lead hns), nums_next hlt hnum hyes1⟩, (by show _ - (i + 1) < _ - i; omega), (LiveIs.cons rfl (LiveIs.cons rfl (LiveIs.cons rfl (LiveIs.cons rfl (LiveIs.cons rfl LiveIs.nil))))), Ent.refl _⟩
  ·
   have hyes := nums_end (by omega) hnum
   refine T.exit ?_
   refine Post.seq_x ?_
   refine Post.seq_x ?_
   refine Post.block_hit ?_
   refine hK26 _ _ ?_
   refine T.seq fun K39 hK39 => ?_
   refine T.seq fun K40 hK40 => ?_
   refine T.region (l := [0, 1, 2]) rfl ?_
   refine RN.p rfl (p_fieldAddr rfl fa_31_0 rfl) ?_
   refine RN.u rfl (q_load rfl sc_5 rfl (i := 0) rfl rfl) ?_
   refine RN.p rfl (p_eql rfl rfl rfl) ?_
   refine RN.nil ?_
   refine hK40 _ _ ?_
   first | refine T.cond_dec rfl (fun h78 => ?_) (fun h78 => ?_) | refine T.cond rfl (fun h78 => ?_) (fun h78 => ?_)
   ·
    obtain ⟨hk119, rfl, hww⟩ : kind = 119 ∧ many = 2 ∧ (wordF l).1 = wWrite := by
     rcases hkw with ⟨h, _⟩ | h
     · omega
     · exact h
    obtain ⟨x, y, rfl⟩ := two_acc (nums_len _ _ _ _ hyes)
    have hlead := hld.resolve_left (by omega)
    have hdl := dropB_len s
    refine T.seq fun K41 hK41 => ?_
    refine T.region (l := [0]) rfl ?_
    refine RN.a rfl ?_
    refine RN.nil ?_
    refine hK41 _ _ ?_
    refine T.cut (G := Unit) (fun ⟨⟩ => True) (fun ⟨⟩ => [(2, ptr b2 0), (6, ptr b6 0), (5, strV s), (13, intV (lead s))]) (fun ⟨⟩ => [row b6 31 ([kC kind, iC ([x, y].getD 0 0), iC ([x, y].getD 1 0), strV []]), row b2 31 [kC 0, iC 0, iC 0, strV []], Fr]) ?_ ?_
    ·
     refine T.block ?_
     refine T.loop (G := Nat) (fun p => p ≤ s.length ∧ Clear (fun c => ¬ blankL c) s p) (fun p => [(2, ptr b2 0), (6, ptr b6 0), (5, strV s), (13, intV p)]) (fun p => [row b6 31 ([kC kind, iC ([x, y].getD 0 0), iC ([x, y].getD 1 0), strV []]), row b2 31 [kC 0, iC 0, iC 0, strV []], Fr]) (fun p => s.length - p) 0 ⟨Nat.zero_le _, clear_zero⟩ (LiveIs.cons rfl (LiveIs.cons rfl (LiveIs.cons rfl (LiveIs.cons rfl LiveIs.nil)))) (Ent.refl _) ?_
     rintro p e43 ⟨hp, hc⟩
     refine T.seq fun K44 hK44 => ?_
     refine T.seq fun K45 hK45 => ?_
     refine T.region (l := [0, 1, 2, 3, 4, 5, 6, 7, 8, 9]) rfl ?_
     refine RN.m rfl ?_
     refine RN.m rfl ?_
     refine RN.p rfl (p_len_s rfl Tryz.underlying9 rfl) ?_
     refine RN.p rfl (p_lss rfl rfl rfl) ?_
     refine RN.m rfl ?_
     first | refine RN.split_dec 83 rfl (fun h83 => ?_) (fun h83 => ?_) | refine RN.split 83 rfl (fun h83 => ?_) (fun h83 => ?_)
     ·
      have hlt : p < s.length := by omega
      refine RN.m rfl ?_
      refine RN.m rfl ?_
      refine RN.p rfl (by first | exact (p_indexN_s rfl Tryz.underlying9 rfl rfl (List.getElem?_eq_getElem hlt)) | exact (p_index_s rfl Tryz.underlying9 rfl rfl (List.getElem?_eq_getElem hlt))) ?_
      refine RN.C [] rfl rfl rfl rfl (c_call rfl rfl) (RBlank_spec s[p].toNat) rfl ?_
      rintro _ _ ⟨rfl, rfl⟩
      refine RN.pt rfl ?_
      refine RN.nil ?_
      refine hK45 _ _ ?_
      first | refine T.cond_dec rfl (fun h88 => ?_) (fun h88 => ?_) | refine T.cond rfl (fun h88 => ?_) (fun h88 => ?_)
      ·
       refine T.skip ?_
       refine hK44 _ _ ?_
       refine T.block ?_
       refine T.region (l := [0, 1, 2]) rfl ?_
       refine RN.m rfl ?_
       refine RN.p rfl (by first | exact (p_addN (b := 1) rfl rfl rfl (by omega)) | exact (p_add rfl rfl rfl (by omega))) ?_
       refine RN.a rfl ?_
       refine RN.nil ?_
       refine ⟨p + 1, ⟨hlt, clear_one hc hlt (not_not_intro h88)⟩, (by show _ - (p + 1) < _ - p; omega), (LiveIs.cons rfl (LiveIs.cons rfl (LiveIs.cons rfl (LiveIs.cons rfl LiveIs.nil)))), Ent.refl _⟩
      ·
       refine T.exit ?_
       refine Post.seq_x ?_
       refine Post.seq_x ?_
       refine Post.block_hit ?_
       refine ⟨(), trivial, (LiveIs.cons rfl (LiveIs.cons rfl (LiveIs.cons rfl (LiveIs.cons (congrArg intV (clear_lead hp hc (.inr ⟨hlt, h88⟩))) LiveIs.nil)))), Ent.refl _⟩
     ·
      refine RN.no0 rfl ?_
      refine RN.no0 rfl ?_
      refine RN.no0 rfl ?_
      refine RN.no0 rfl ?_
      refine RN.pf rfl ?_
      refine RN.nil ?_
      refine hK45 _ _ ?_
      refine T.cond_f rfl ?_
      refine T.exit ?_
      refine Post.seq_x ?_
      refine Post.seq_x ?_
      refine Post.block_hit ?_
      refine ⟨(), trivial, (LiveIs.cons rfl (LiveIs.cons rfl (LiveIs.cons rfl (LiveIs.cons (congrArg intV (clear_lead hp hc (.inl (by omega)))) LiveIs.nil)))), Ent.refl _⟩
    ·
     rintro ⟨⟩ e42 -
     refine T.seq fun K46 hK46 => ?_
     refine T.region (l := [0, 1, 2, 3, 4, 5, 6, 7, 8, 9, 10]) rfl ?_
     refine RN.m rfl ?_
     refine RN.m rfl ?_
     refine RN.p rfl (by first | exact (p_slice_s_lo rfl Tryz.underlying9 rfl rfl (first_lead s).le) | exact (p_sliceN_s rfl Tryz.underlying9 rfl rfl rfl (first_lead s).le) | exact (p_slice_s rfl Tryz.underlying9 rfl rfl rfl (first_lead s).le)) ?_
     refine RN.C [] rfl rfl rfl rfl (c_call rfl rfl) (RRead_spec (dropB s) (by omega)) rfl ?_
     rintro _ _ ⟨s', n, ok, rfl, ⟨e, hrd, hok⟩, hsl', rfl⟩
     have hnl2 := rd_le hrd
     refine RN.m rfl ?_
     refine RN.p rfl (p_extract rfl rfl rfl) ?_
     refine RN.p rfl (p_extract rfl rfl rfl) ?_
     refine RN.p rfl (p_extract rfl rfl rfl) ?_
     refine RN.a rfl ?_
     refine RN.a rfl ?_
     refine RN.a rfl ?_
     refine RN.nil ?_
     refine hK46 _ _ ?_
     refine T.seq fun K47 hK47 => ?_
     refine T.seq fun K48 hK48 => ?_
     refine T.region (l := [0, 1, 2, 3, 4, 5]) rfl ?_
     refine RN.m rfl ?_
     refine RN.p rfl (by first | exact (p_not_dec rfl rfl) | exact (p_not rfl rfl)) ?_
     refine RN.m rfl ?_
     first | refine RN.split_dec 101 rfl (fun h101 => ?_) (fun h101 => ?_) | refine RN.split 101 rfl (fun h101 => ?_) (fun h101 => ?_)
     ·
      have he : e ≠ 0 := by
       intro g
       subst g
       have hok : ok = true := hok.trans (decide_eq_true rfl)
       rw [hok] at h101
       simp at h101
      refine RN.no0 rfl ?_
      refine RN.no0 rfl ?_
      refine RN.pt rfl ?_
      refine RN.nil ?_
      refine hK48 _ _ ?_
      refine T.cond_t rfl ?_
      refine T.seq fun K49 hK49 => ?_
      refine T.region (l := [0, 1, 2]) rfl ?_
      refine RN.u rfl (q_loadA (vs := [kC kind, iC ([x, y].getD 0 0), iC ([x, y].getD 1 0), strV []]) rfl ag_31 ts_31 rfl (i := 0) rfl (Nat.le_refl 4) rfl) ?_
      refine RN.EN rfl rfl rfl (e_storeA (vs := [kC kind, iC ([x, y].getD 0 0), iC ([x, y].getD 1 0), strV []]) rfl ts_31 rfl rfl rfl rc_one (i := 1) rfl (Nat.le_refl 4)) ?_
      rintro _ _ ⟨rfl, rfl⟩
      refine RN.a rfl ?_
      refine RN.nil ?_
      refine hK49 _ _ ?_
      refine T.ret ?_
      refine Post.seq_r ?_
      refine Post.seq_r ?_
      refine bodyQ_ret [] (RetRun.cell rfl (load_cell (vs := [kC kind, iC ([x, y].getD 0 0), iC ([x, y].getD 1 0), strV []]) ag_31 ts_31 (i := 1) rfl (Nat.le_refl 4) rfl) (RetRun.tmp RetRun.nil)) ⟨[kC kind, iC ([x, y].getD 0 0), iC ([x, y].getD 1 0), strV []], false, rfl, rfl, rc_one, .inr ⟨rfl, by rw [line_write hww]; exact write_bad hyes hrd he⟩, rfl⟩ (Ent.pull_drop (is := [2]) rfl)
     ·
      have hok1 : ok = true := by simpa using h101
      refine RN.m rfl ?_
      refine RN.p rfl (p_eql rfl rfl rfl) ?_
      refine RN.pf rfl ?_
      refine RN.nil ?_
      refine hK48 _ _ ?_
      first | refine T.cond_dec rfl (fun h104 => ?_) (fun h104 => ?_) | refine T.cond rfl (fun h104 => ?_) (fun h104 => ?_)
      ·
       have he : e ≠ 0 := by
        have h0 : lead s = 0 := by omega
        rcases hlead with hs0 | hs0
        ·
         subst hs0
         have := rd_nil hrd
         omega
        · omega
       refine T.seq fun K50 hK50 => ?_
       refine T.region (l := [0, 1, 2]) rfl ?_
       refine RN.u rfl (q_loadA (vs := [kC kind, iC ([x, y].getD 0 0), iC ([x, y].getD 1 0), strV []]) rfl ag_31 ts_31 rfl (i := 0) rfl (Nat.le_refl 4) rfl) ?_
       refine RN.EN rfl rfl rfl (e_storeA (vs := [kC kind, iC ([x, y].getD 0 0), iC ([x, y].getD 1 0), strV []]) rfl ts_31 rfl rfl rfl rc_one (i := 1) rfl (Nat.le_refl 4)) ?_
       rintro _ _ ⟨rfl, rfl⟩
       refine RN.a rfl ?_
       refine RN.nil ?_
       refine hK50 _ _ ?_
       refine T.ret ?_
       refine Post.seq_r ?_
       refine Post.seq_r ?_
       refine bodyQ_ret [] (RetRun.cell rfl (load_cell (vs := [kC kind, iC ([x, y].getD 0 0), iC ([x, y].getD 1 0), strV []]) ag_31 ts_31 (i := 1) rfl (Nat.le_refl 4) rfl) (RetRun.tmp RetRun.nil)) ⟨[kC kind, iC ([x, y].getD 0 0), iC ([x, y].getD 1 0), strV []], false, rfl, rfl, rc_one, .inr ⟨rfl, by rw [line_write hww]; exact write_bad hyes hrd he⟩, rfl⟩ (Ent.pull_drop (is := [2]) rfl)
      ·
       obtain rfl : e = 0 := by
        rw [hok1] at hok
        exact of_decide_eq_true hok.symm
       have hdl2 : (dropB s).length = s.length - lead s := by unfold dropB; rw [List.length_drop]
       have hls := (first_lead s).le
       refine T.skip ?_
       refine hK47 _ _ ?_
       refine T.seq fun K51 hK51 => ?_
       refine T.region (l := [0, 1, 2]) rfl ?_
       refine RN.m rfl ?_
       refine RN.p rfl (p_fieldAddr rfl fa_31_3 rfl) ?_
       refine RN.EN rfl rfl rfl (e_store rfl ts_9 rfl (by conv => lhs; whnf) (by first | rfl | assumption) (i := 0) rfl (Nat.lt_of_lt_of_le (by decide) (Nat.le_refl 4))) ?_
       rintro _ _ ⟨rfl, rfl⟩
       refine RN.nil ?_
       refine hK51 _ _ ?_
       refine T.region (l := [0, 1, 2, 3, 4, 5]) rfl ?_
       refine RN.m rfl ?_
       refine RN.m rfl ?_
       refine RN.m rfl ?_
       refine RN.p rfl (by first | exact (p_addN rfl rfl rfl (by omega)) | exact (p_add rfl rfl rfl (by omega))) ?_
       refine RN.p rfl (by first | exact (p_slice_s_lo rfl Tryz.underlying9 rfl rfl (by omega)) | exact (p_sliceN_s rfl Tryz.underlying9 rfl rfl rfl (by omega)) | exact (p_slice_s rfl Tryz.underlying9 rfl rfl rfl (by omega))) ?_
       refine RN.a rfl ?_
       refine RN.nil ?_
       refine hK39 _ _ ?_
       refine T.seq fun K52 hK52 => ?_
       refine T.regionD (z := 3) (Bs := [row b6 31 ([kC kind, iC ([x, y].getD 0 0), iC ([x, y].getD 1 0), strV s'])]) (l := [(0, .load), (1, .pure), (2, .eff), (3, .eff), (4, .pure)]) mixed (by kernel_rfl) (by first | exact Ent.refl _ | exact Ent.pull_drop (is := [0]) rfl | exact Ent.pull_drop (is := [1]) rfl | exact Ent.pull_drop (is := [2]) rfl | exact Ent.pull_drop (is := [3]) rfl | exact Ent.pull_drop (is := [4]) rfl | exact Ent.pull_drop (is := [5]) rfl | exact Ent.pull_drop (is := [6]) rfl | exact Ent.pull_drop (is := [7]) rfl) ?_
       refine RD.qq rfl rfl rfl rfl (q_loadA (vs := [kC kind, iC ([x, y].getD 0 0), iC ([x, y].getD 1 0), strV s']) rfl ag_31 ts_31 rfl (i := 0) rfl (Nat.le_refl 4) rfl) (by first | exact Ent.refl _ | exact Ent.pull_drop (is := [0]) rfl | exact Ent.pull_drop (is := [1]) rfl) ?_
       refine RD.n rfl (p_move rfl (by conv => lhs; whnf)) ?_
       refine RD.C [] rfl rfl rfl rfl (c_call rfl rfl) (REmpty_spec _ (by first | omega | (rw [List.length_drop]; omega)) (by first | exact hns | exact hns.drop _)) rfl (by rintro _ _ ⟨rfl, rfl⟩; exact .inl (by first | exact Ent.refl _ | exact Ent.pull_drop (is := [0]) rfl | exact Ent.pull_drop (is := [1]) rfl | exact Ent.pull_drop (is := [2]) rfl | exact Ent.pull_drop (is := [3]) rfl | exact Ent.pull_drop (is := [4]) rfl | exact Ent.pull_drop (is := [5]) rfl | exact Ent.pull_drop (is := [6]) rfl | exact Ent.pull_drop (is := [7]) rfl)) ?_
       rintro _ _ ⟨rfl, rfl⟩
       refine RD.EN rfl rfl rfl (e_storeA (vs := [kC kind, iC ([x, y].getD 0 0), iC ([x, y].getD 1 0), strV s']) rfl ts_31 rfl rfl rfl rc_one (i := 1) rfl (Nat.le_refl 4)) (fun _ _ _ => .inr rfl) ?_
       rintro _ _ ⟨rfl, rfl⟩
       refine RD.n rfl (p_assign rfl (by conv => lhs; whnf)) ?_
       refine RD.nil ?_
       refine hK52 _ _ ?_
       refine T.ret ?_
       refine bodyQ_ret [] (RetRun.cell rfl (load_cell (vs := [kC kind, iC ([x, y].getD 0 0), iC ([x, y].getD 1 0), strV s']) ag_31 ts_31 (i := 1) rfl (Nat.le_refl 4) rfl) (RetRun.tmp RetRun.nil)) ⟨[kC kind, iC ([x, y].getD 0 0), iC ([x, y].getD 1 0), strV s'], _, rfl, rfl, rc_one, ?_, rfl⟩ (Ent.pull_drop (is := [2]) rfl)
       rw [line_write hww, write_good hyes hrd]
       have hdd : (dropB s).drop n = s.drop (lead s + n) := by unfold dropB; rw [List.drop_drop]
       rw [hdd]
       by_cases hem : (wordF (s.drop (lead s + n))).1 = []
       ·
        rw [if_pos hem]
        exact .inl ⟨decide_eq_true hem, _, rfl, by rw [hk119]; rfl⟩
       ·
        rw [if_neg hem]
        exact .inr ⟨decide_eq_false hem, rfl⟩
   ·
    obtain ⟨hkq, hk0⟩ : KindQ l many kind ∧ kind ≠ 0 := by
     rcases hkw with ⟨_, h⟩ | ⟨h, _⟩
     · exact h
     · omega
    refine T.skip ?_
    refine hK39 _ _ ?_
    refine T.seq fun K53 hK53 => ?_
    refine T.regionD (z := 3) (Bs := [row b6 31 ([kC kind, iC (acc.getD 0 0), iC (acc.getD 1 0), strV []])]) (l := [(0, .load), (1, .pure), (2, .eff), (3, .eff), (4, .pure)]) mixed (by kernel_rfl) (by first | exact Ent.refl _ | exact Ent.pull_drop (is := [0]) rfl | exact Ent.pull_drop (is := [1]) rfl | exact Ent.pull_drop (is := [2]) rfl | exact Ent.pull_drop (is := [3]) rfl | exact Ent.pull_drop (is := [4]) rfl | exact Ent.pull_drop (is := [5]) rfl | exact Ent.pull_drop (is := [6]) rfl | exact Ent.pull_drop (is := [7]) rfl) ?_
    refine RD.qq rfl rfl rfl rfl (q_loadA (vs := [kC kind, iC (acc.getD 0 0), iC (acc.getD 1 0), strV []]) rfl ag_31 ts_31 rfl (i := 0) rfl (Nat.le_refl 4) rfl) (by first | exact Ent.refl _ | exact Ent.pull_drop (is := [0]) rfl | exact Ent.pull_drop (is := [1]) rfl) ?_
    refine RD.n rfl (p_move rfl (by conv => lhs; whnf)) ?_
    refine RD.C [] rfl rfl rfl rfl (c_call rfl rfl) (REmpty_spec _ (by first | omega | (rw [List.length_drop]; omega)) (by first | exact hns | exact hns.drop _)) rfl (by rintro _ _ ⟨rfl, rfl⟩; exact .inl (by first | exact Ent.refl _ | exact Ent.pull_drop (is := [0]) rfl | exact Ent.pull_drop (is := [1]) rfl | exact Ent.pull_drop (is := [2]) rfl | exact Ent.pull_drop (is := [3]) rfl | exact Ent.pull_drop (is := [4]) rfl | exact Ent.pull_drop (is := [5]) rfl | exact Ent.pull_drop (is := [6]) rfl | exact Ent.pull_drop (is := [7]) rfl)) ?_
    rintro _ _ ⟨rfl, rfl⟩
    refine RD.EN rfl rfl rfl (e_storeA (vs := [kC kind, iC (acc.getD 0 0), iC (acc.getD 1 0), strV []]) rfl ts_31 rfl rfl rfl rc_one (i := 1) rfl (Nat.le_refl 4)) (fun _ _ _ => .inr rfl) ?_
    rintro _ _ ⟨rfl, rfl⟩
    refine RD.n rfl (p_assign rfl (by conv => lhs; whnf)) ?_
    refine RD.nil ?_
    refine hK53 _ _ ?_
    refine T.ret ?_
    refine bodyQ_ret [] (RetRun.cell rfl (load_cell (vs := [kC kind, iC (acc.getD 0 0), iC (acc.getD 1 0), strV []]) ag_31 ts_31 (i := 1) rfl (Nat.le_refl 4) rfl) (RetRun.tmp RetRun.nil)) ⟨[kC kind, iC (acc.getD 0 0), iC (acc.getD 1 0), strV []], _, rfl, rfl, rc_one, ?_, rfl⟩ (Ent.pull_drop (is := [2]) rfl)
    by_cases hem : (wordF s).1 = []
    · exact .inl ⟨decide_eq_true hem, _, line_yes hkq hk0 hyes hem, rfl⟩
    · exact .inr ⟨decide_eq_false hem, line_left hkq hyes hem⟩

end Go.Proofs.YtokbjejbgbdkoaaGreatDoor
