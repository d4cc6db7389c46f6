/-
  Whole streams, in plain words: no program in sight.
-/
import Derived.Test.YticfabhcfdmbjaaModelQ
set_option linter.unusedVariables false
set_option linter.unusedSimpArgs false
namespace Go.Mo
open Go Go.Sl
abbrev Pay := List UInt8
/-- One page more: none: it does not fit. -/
def wstep (lba : Int) (total : Nat) (pt : List (Option Pay)) (p : Pg) : Option (List (Option Pay)) :=
  if p.lba ≠ lba ∨ p.total ≠ total ∨ (total : Int) ≤ p.index then none
  else match pt[p.index.toNat]? with
    | some (some c) => if c ≠ p.pay then none else some (pt.set p.index.toNat (some p.pay))
    | _ => some (pt.set p.index.toNat (some p.pay))
def wfold (lba : Int) (total : Nat) (st : Option (List (Option Pay))) (ps : List Pg) : Option (List (Option Pay)) := ps.foldl (fun st p => st.bind fun pt => wstep lba total pt p) st
theorem wfold_none (lba : Int) (total : Nat) : ∀ ps, wfold lba total none ps = none
  | [] => rfl
  | _ :: ps => wfold_none lba total ps
theorem wfold_take {lba : Int} {total : Nat} {st : Option (List (Option Pay))} {ps : List Pg} {j : Nat} (hj : j < ps.length) : wfold lba total st (ps.take (j + 1)) = (wfold lba total st (ps.take j)).bind fun pt => wstep lba total pt ps[j] := by
  unfold wfold
  rw [List.take_succ_eq_append_getElem hj, List.foldl_append]
  rfl
theorem wfold_dead {lba : Int} {total : Nat} {st : Option (List (Option Pay))} {ps : List Pg} {j : Nat} (h : wfold lba total st (ps.take j) = none) : wfold lba total st ps = none := by
  have e : ps = ps.take j ++ ps.drop j := (List.take_append_drop j ps).symm
  rw [e]
  unfold wfold at *
  rw [List.foldl_append, h]
  exact wfold_none lba total _
/-- All there: the bytes. -/
def allP : List (Option Pay) → Option (List UInt8)
  | [] => some []
  | none :: _ => none
  | some c :: r => (allP r).map (c ++ ·)
def wholeT (lba : Int) (pt : List (Option Pay)) : Option (List UInt8) := match allP pt with
  | none => none
  | some b => if ∀ x ∈ b.drop lba.toNat, x = 0 then some (b.take lba.toNat) else none
def wholeL : List Pg → Option (List UInt8)
  | [] => none
  | p :: ps => if 65536 < p.lba then none else match wfold p.lba (pagesN p.lba.toNat) (some (List.replicate (pagesN p.lba.toNat) none)) (p :: ps) with
    | none => none
    | some pt => wholeT p.lba pt
theorem allP_take {pt : List (Option Pay)} {k : Nat} (hk : k < pt.length) {b c : List UInt8} (h : allP (pt.take k) = some b) (hc : pt[k] = some c) : allP (pt.take (k + 1)) = some (b ++ c) := by
  induction pt generalizing k b with
  | nil => simp at hk
  | cons o r ih =>
    cases k with
    | zero =>
      simp only [List.getElem_cons_zero] at hc
      subst hc
      simp only [List.take_zero, allP, Option.some.injEq] at h
      subst h
      simp [allP]
    | succ k =>
      simp only [List.getElem_cons_succ] at hc
      rw [List.take_succ_cons] at h ⊢
      cases o with
      | none => cases h
      | some c0 =>
        rw [allP] at h ⊢
        obtain ⟨b0, hb0, rfl⟩ := Option.map_eq_some_iff.1 h
        rw [ih (by simpa using hk) hb0 hc]
        simp
theorem allP_dead {pt : List (Option Pay)} {k : Nat} (hk : k < pt.length) (hc : pt[k] = none) : allP pt = none := by
  induction pt generalizing k with
  | nil => simp at hk
  | cons o r ih =>
    cases k with
    | zero =>
      simp only [List.getElem_cons_zero] at hc
      subst hc
      rfl
    | succ k =>
      cases o with
      | none => rfl
      | some c0 => rw [allP, ih (by simpa using hk) (by simpa using hc)]; rfl
/-- The boxes that parts point into. -/
abbrev Bx := Option (Nat × Pg)
def Bx.addr (o : Bx) : Option Addr := o.map fun x => ⟨x.1, 7, none⟩
def Bx.ptr (o : Bx) : Value := .pointer (Bx.addr o)
def Bx.own (T : Nat) : Bx → Assn
  | none => sep []
  | some x => row x.1 T x.2.cells
def Bx.pay (o : Bx) : Option Pay := o.map (·.2.pay)
theorem u8V_inj {a b : List UInt8} (h : a.map u8V = b.map u8V) : a = b := by
  induction a generalizing b with
  | nil => cases b with
    | nil => rfl
    | cons _ _ => simp at h
  | cons x a ih => cases b with
    | nil => simp at h
    | cons y b =>
      simp only [List.map_cons, List.cons.injEq] at h
      have hxy : x = y := by
        have := h.1
        unfold u8V at this
        injection this with _ h2
        exact UInt8.toNat_inj.1 (by omega)
      rw [hxy, ih h.2]
theorem pay_cells {p : Pg} (h : p.pay.length = 32) : (p.cells.drop (0 + 7)).take 32 = p.pay.map u8V := by
  show (p.pay.map u8V).take 32 = _
  exact List.take_of_length_le (by simp [h])
theorem lay_pg {z : List Value} {p : Pg} (hz : z.length = 39) (h : p.pay.length = 32) : lay z 0 p.cells = p.cells := lay_full (by rw [hz, Pg.cells_length h])
theorem zeros_ptr (n : Nat) : zeros n [.pointer none] = (List.replicate n (none : Bx)).map Bx.ptr := by
  unfold zeros
  rw [List.map_replicate]
  induction n with
  | zero => rfl
  | succ n ih => rw [List.replicate_succ, List.flatten_cons, ih]; rfl
theorem own_none (T n : Nat) : Ent (sep []) (sep ((List.replicate n (none : Bx)).map (Bx.own T))) := by
  induction n with
  | zero => exact Ent.refl _
  | succ n ih =>
    rw [List.replicate_succ, List.map_cons]
    exact ih.trans (Ent.unflat [] _)
theorem bx_get {bs : List Bx} {x : Nat} (h : x < bs.length) : (bs.map Bx.ptr)[0 + x]? = some (Bx.ptr bs[x]) := by
  rw [Nat.zero_add, List.getElem?_map, List.getElem?_eq_getElem h]; rfl
theorem bx_some {o : Bx} (h : (!(Bx.addr o).isNone) = true) : ∃ b p, o = some (b, p) := by
  cases o with
  | none => cases h
  | some x => exact ⟨x.1, x.2, rfl⟩
theorem bx_some2 {o : Bx} (h : (Bx.addr o).isNone = false) : ∃ b p, o = some (b, p) := bx_some (by rw [h]; rfl)
theorem bx_none {o : Bx} (h : (Bx.addr o).isNone = true) : o = none := by
  cases o with
  | none => rfl
  | some x => cases h
theorem own_bx {T : Nat} {bs : List Bx} {x b : Nat} {p : Pg} (h : x < bs.length) (hb : bs[x] = some (b, p)) : nth (bs.map (Bx.own T)) x = some (row b T p.cells) := by
  rw [nth_map, nth_get h, hb]; rfl
theorem bx_set {bs : List Bx} {x : Nat} (o : Bx) : (bs.map Bx.ptr).set (0 + x) (Bx.ptr o) = (bs.set x o).map Bx.ptr := by
  rw [Nat.zero_add, List.map_set]
theorem own_bx_set {T : Nat} {bs : List Bx} {x b : Nat} {p : Pg} {R : List Assn} (h : x < bs.length) : Ent (sep (row b T p.cells :: sep (bs.map (Bx.own T)) :: R)) (sep (sep ((bs.set x (some (b, p))).map (Bx.own T)) :: R)) := by
  have hn : nth (bs.map (Bx.own T)) x = some (Bx.own T bs[x]) := by rw [nth_map, nth_get h]; rfl
  have e : setN (bs.map (Bx.own T)) x (row b T p.cells) = (bs.set x (some (b, p))).map (Bx.own T) := by rw [setN_eq, List.map_set]; rfl
  rw [← e]
  refine (Ent.cons (Ent.refl _) (Ent.bor hn)).trans ?_
  refine (Ent.cons (Ent.refl _) (Ent.drop _ _)).trans ?_
  exact Ent.unbor hn
theorem wstep_some {lba : Int} {total : Nat} {pt : List (Option Pay)} {p : Pg} (h : ¬ (p.lba ≠ lba ∨ p.total ≠ total ∨ (total : Int) ≤ p.index)) (hc : ∀ c, pt[p.index.toNat]? = some (some c) → c = p.pay) : wstep lba total pt p = some (pt.set p.index.toNat (some p.pay)) := by
  unfold wstep
  rw [if_neg h]
  split
  · rename_i c hcc
    rw [if_neg (fun g => g (hc c hcc))]
  · rfl
theorem wstep_bad {lba : Int} {total : Nat} {pt : List (Option Pay)} {p : Pg} (h : p.lba ≠ lba ∨ p.total ≠ total ∨ (total : Int) ≤ p.index) : wstep lba total pt p = none := by
  unfold wstep
  rw [if_pos h]
theorem wstep_dif {lba : Int} {total : Nat} {pt : List (Option Pay)} {p : Pg} {c : Pay} (hc : pt[p.index.toNat]? = some (some c)) (h : ¬ c = p.pay) : wstep lba total pt p = none := by
  unfold wstep
  split
  · rfl
  · simp only [hc]
    rw [if_pos h]
def WholeQ (A : Assn) (ps : List Pg) : Value → List Assn → Prop := fun v Ps => match wholeL ps with
  | none => v = .tuple #[.slice none 0 0, .bool false] ∧ Ps = [A]
  | some bs => ∃ bv, v = .tuple #[bv, .bool true] ∧ bv.oneCell' = true ∧ Ps = [vec 5 1 bv bs.length (bs.map u8V), A]
theorem WholeQ_none {A : Assn} {ps : List Pg} (h : wholeL ps = none) : WholeQ A ps (.tuple #[.slice none 0 0, .bool false]) [A] := by
  unfold WholeQ; rw [h]; exact ⟨rfl, rfl⟩
theorem WholeQ_some {A : Assn} {ps : List Pg} {bs : List UInt8} {bv : Value} (h : wholeL ps = some bs) (hv : bv.oneCell' = true) : WholeQ A ps (.tuple #[bv, .bool true]) [vec 5 1 bv bs.length (bs.map u8V), A] := by
  unfold WholeQ; rw [h]; exact ⟨bv, rfl, hv, rfl⟩
theorem wholeL_fold {p : Pg} {ps : List Pg} (h : ¬ 65536 < p.lba) {o : Option (List (Option Pay))} (hf : wfold p.lba (pagesN p.lba.toNat) (some (List.replicate (pagesN p.lba.toNat) none)) (p :: ps) = o) : wholeL (p :: ps) = o.bind (wholeT p.lba) := by
  rw [wholeL, if_neg h, hf]
  cases o <;> rfl
theorem wholeL_dead {p : Pg} {ps : List Pg} (h : ¬ 65536 < p.lba) {pt : List (Option Pay)} {i : Nat} (hi : i < (p :: ps).length) (hf : wfold p.lba (pagesN p.lba.toNat) (some (List.replicate (pagesN p.lba.toNat) none)) ((p :: ps).take i) = some pt) (hs : wstep p.lba (pagesN p.lba.toNat) pt (p :: ps)[i] = none) : wholeL (p :: ps) = none := by
  rw [wholeL_fold h (o := none) (wfold_dead (j := i + 1) (by rw [wfold_take hi, hf]; exact hs))]
  rfl
theorem bx_none2 {o : Bx} (h : (!(Bx.addr o).isNone) = false) : o = none := by
  cases o with
  | none => rfl
  | some x => cases h
theorem bs_set_ok {bs : List Bx} {j b : Nat} {p : Pg} (h : ∀ x b p, x ∈ bs → x = some (b, p) → p.pay.length = 32) (hp : p.pay.length = 32) : ∀ x b' p', x ∈ bs.set j (some (b, p)) → x = some (b', p') → p'.pay.length = 32 := by
  intro x b' p' hx he
  rcases List.mem_or_eq_of_mem_set hx with h1 | h1
  · exact h x b' p' h1 he
  · rw [h1] at he
    cases he
    exact hp
theorem mem_drop_at {bb : List UInt8} {L j : Nat} (h : L + j < bb.length) : bb[L + j] ∈ bb.drop L := by
  rw [← List.getElem_drop (h := by rw [List.length_drop]; omega)]
  exact List.getElem_mem _
theorem zero_ext {bb : List UInt8} {L j : Nat} (h : L + j < bb.length) (hz : ∀ x ∈ (bb.drop L).take j, x = 0) (h0 : bb[L + j] = 0) : ∀ x ∈ (bb.drop L).take (j + 1), x = 0 := by
  intro x hx
  have hl : j < (bb.drop L).length := by rw [List.length_drop]; omega
  rw [List.take_succ_eq_append_getElem hl, List.mem_append] at hx
  rcases hx with hx | hx
  · exact hz x hx
  · rw [List.mem_singleton.1 hx, List.getElem_drop, h0]
theorem wholeT_some {lba : Int} {pt : List (Option Pay)} {b : List UInt8} (h : allP pt = some b) (hz : ∀ x ∈ b.drop lba.toNat, x = 0) : wholeT lba pt = some (b.take lba.toNat) := by
  unfold wholeT
  simp only [h]
  rw [if_pos hz]
theorem wholeT_bad {lba : Int} {pt : List (Option Pay)} {b : List UInt8} (h : allP pt = some b) (hz : ¬ ∀ x ∈ b.drop lba.toNat, x = 0) : wholeT lba pt = none := by
  unfold wholeT
  simp only [h]
  rw [if_neg hz]
theorem wholeT_dead {lba : Int} {pt : List (Option Pay)} (h : allP pt = none) : wholeT lba pt = none := by
  unfold wholeT
  simp only [h]
theorem subSl_slc {b n cap L m : Nat} (h : cap ≠ L) : subSl 1 (slc b 0 n cap) L m = slc b L (m - L) (cap - L) := by
  show Value.slice (if cap = L then _ else _) _ _ = _
  rw [if_neg h, Nat.mul_one, Option.map_some, addr_add, Nat.zero_add]
end Go.Mo
namespace Go.Mo
open Go Go.Sl
def Pg.key (p : Pg) : Ky := ⟨p.kind, p.epoch, p.group⟩
def Pg.valid (p : Pg) : Prop := p.kind = 2 ∨ p.kind = 3
instance (p : Pg) : Decidable p.valid := by unfold Pg.valid; infer_instance
/-- What may come into leaf.Join. -/
structure Pg.fit (p : Pg) : Prop where
  ok : p.ok
  epoch : U32 p.epoch
  group : U32 p.group
/-- A group: its key, its slice, its pages. -/
structure Gr where
  k : Ky
  v : Value
  ps : List Pg
def Gr.kv (g : Gr) : List Value × Value := (g.k.cells, g.v)
def Gr.own (g : Gr) : Assn := vec 54 39 g.v g.ps.length (pgs g.ps)
def Ky.ok (k : Ky) : Prop := (k.kind = 2 ∨ k.kind = 3) ∧ U32 k.epoch ∧ U32 k.group
theorem Ky.cells_inj {a b : Ky} (h : a.cells = b.cells) : a = b := by
  cases a; cases b
  simp only [Ky.cells, List.cons.injEq, Value.int.injEq, true_and, and_true] at h
  simp only [Ky.mk.injEq]
  exact h
/-- The groups of the pages that are behind. -/
structure Grouped (qs : List Pg) (st : List Gr) : Prop where
  nodup : (st.map (·.k)).Nodup
  mem : ∀ k, k ∈ st.map (·.k) ↔ ∃ p ∈ qs, p.valid ∧ p.key = k
  ps : ∀ g ∈ st, g.ps = qs.filter (fun p => decide (p.valid ∧ p.key = g.k))
  one : ∀ g ∈ st, g.v.oneCell' = true
theorem Grouped.nil : Grouped [] [] := ⟨List.nodup_nil, fun k => by simp, fun g h => by simp at h, fun g h => by simp at h⟩
theorem Grouped.skip {qs : List Pg} {st : List Gr} (h : Grouped qs st) {p : Pg} (hp : ¬ p.valid) : Grouped (qs ++ [p]) st := by
  refine ⟨h.nodup, fun k => ?_, fun g hg => ?_, h.one⟩
  · rw [h.mem k]
    constructor
    · rintro ⟨q, hq, hv⟩
      exact ⟨q, List.mem_append_left _ hq, hv⟩
    · rintro ⟨q, hq, hv, hk⟩
      rcases List.mem_append.1 hq with h1 | h1
      · exact ⟨q, h1, hv, hk⟩
      · rw [List.mem_singleton.1 h1] at hv
        exact absurd hv hp
  · rw [h.ps g hg, List.filter_append]
    simp [hp]
theorem Grouped.push {qs : List Pg} {st : List Gr} (h : Grouped qs st) {p : Pg} {v : Value} (hp : p.valid) (hk : p.key ∉ st.map (·.k)) (hv : v.oneCell' = true) : Grouped (qs ++ [p]) (st ++ [⟨p.key, v, [p]⟩]) := by
  refine ⟨?_, fun k => ?_, fun g hg => ?_, fun g hg => ?_⟩
  · rw [List.map_append, List.nodup_append]
    refine ⟨h.nodup, by simp, fun a ha b hb => ?_⟩
    simp at hb
    subst hb
    exact fun e => hk (e ▸ ha)
  · rw [List.map_append, List.mem_append, h.mem k]
    constructor
    · rintro (⟨q, hq, hv2⟩ | h1)
      · exact ⟨q, List.mem_append_left _ hq, hv2⟩
      · simp at h1
        exact ⟨p, List.mem_append_right _ (by simp), hp, h1.symm⟩
    · rintro ⟨q, hq, hv2, hk2⟩
      rcases List.mem_append.1 hq with h1 | h1
      · exact .inl ⟨q, h1, hv2, hk2⟩
      · rw [List.mem_singleton.1 h1] at hk2
        exact .inr (by simp [hk2])
  · rcases List.mem_append.1 hg with h1 | h1
    · rw [h.ps g h1, List.filter_append]
      have : p.key ≠ g.k := fun e => hk (e ▸ List.mem_map.2 ⟨g, h1, rfl⟩)
      simp [this]
    · rw [List.mem_singleton.1 h1, List.filter_append]
      have h0 : qs.filter (fun q => decide (q.valid ∧ q.key = p.key)) = [] := by
        rw [List.filter_eq_nil_iff]
        intro q hq hd
        have := of_decide_eq_true hd
        exact hk ((h.mem _).2 ⟨q, hq, this⟩)
      rw [h0]
      simp [hp]
  · rcases List.mem_append.1 hg with h1 | h1
    · exact h.one g h1
    · rw [List.mem_singleton.1 h1]; exact hv
theorem Grouped.add {qs : List Pg} {st : List Gr} (h : Grouped qs st) {p : Pg} {v : Value} {j : Nat} (hj : j < st.length) (hp : p.valid) (hk : st[j].k = p.key) (hv : v.oneCell' = true) : Grouped (qs ++ [p]) (st.set j ⟨p.key, v, st[j].ps ++ [p]⟩) := by
  have hm : (st.set j ⟨p.key, v, st[j].ps ++ [p]⟩).map (·.k) = st.map (·.k) := by
    rw [List.map_set]
    apply List.ext_getElem?
    intro i
    rw [List.getElem?_set]
    split
    · rename_i e
      subst e
      simp [hj, hk]
    · rfl
  refine ⟨by rw [hm]; exact h.nodup, fun k => ?_, fun g hg => ?_, fun g hg => ?_⟩
  · rw [hm, h.mem k]
    constructor
    · rintro ⟨q, hq, hv2⟩
      exact ⟨q, List.mem_append_left _ hq, hv2⟩
    · rintro ⟨q, hq, hv2, hk2⟩
      rcases List.mem_append.1 hq with h1 | h1
      · exact ⟨q, h1, hv2, hk2⟩
      · rw [List.mem_singleton.1 h1] at hk2
        exact (h.mem k).1 (by rw [← hk2, ← hk]; exact List.mem_map.2 ⟨_, List.getElem_mem hj, rfl⟩)
  · obtain ⟨i, hi, rfl⟩ := List.getElem_of_mem hg
    rw [List.length_set] at hi
    rw [List.getElem_set]
    split
    · show st[j].ps ++ [p] = _
      rw [h.ps _ (List.getElem_mem hj), List.filter_append, hk]
      simp [hp]
    · rename_i hne
      rw [h.ps _ (List.getElem_mem hi), List.filter_append]
      have : p.key ≠ st[i].k := by
        intro e
        have hn := List.pairwise_iff_getElem.1 h.nodup
        rcases Nat.lt_or_ge i j with g1 | g1
        · exact hn i j (by simpa using hi) (by simpa using hj) g1 (by simp [hk, e])
        · exact hn j i (by simpa using hj) (by simpa using hi) (by omega) (by simp [hk, e])
      simp [this]
  · rcases List.mem_or_eq_of_mem_set hg with h1 | h1
    · exact h.one g h1
    · rw [h1]; exact hv
end Go.Mo
