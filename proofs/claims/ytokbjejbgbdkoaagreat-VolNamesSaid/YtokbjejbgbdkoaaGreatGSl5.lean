/-
  Rows of cells as assertions: loads, stores, new rows. It proves nothing of the program by itself.
-/
import Derived.Test.YtokbjejbgbdkoaaGreatGSl4
import Derived.Laws.Sem
import Derived.Laws.World
import Derived.Laws.Strings
set_option linter.unusedVariables false
set_option linter.unusedSimpArgs false
namespace Go.Sl
open Go

/-- Block b is a row of these cells, all of them free to be written. -/
def row (b : Nat) (T : TypeId) (cs : List Value) : Assn := fun h => ∃ lo hi, h b = some (.cells cs.toArray T (lo, hi)) ∧ ∀ i, i < cs.length → ¬ (lo ≤ i ∧ i < hi)

theorem Sat.fact {W0 w : World} {A : Assn} {L : List Assn} {p : Prop} (s : Sat W0 (sep (A :: L)) w) (h : ∀ f, A f → p) : p := by
  obtain ⟨_, x, _, h1, h2, _, _, ha, _⟩ := s
  exact h h1 ha
theorem Sat.getRow {W0 w : World} {L : List Assn} {i b : Nat} {T : TypeId} {cs : List Value} (s : Sat W0 (sep L) w) (h : nth L i = some (row b T cs)) :
    ∃ lo hi, w.heap[b]? = some (.cells cs.toArray T (lo, hi)) ∧ ∀ i, i < cs.length → ¬ (lo ≤ i ∧ i < hi) := by
  obtain ⟨_, x, hx, ha⟩ := s.mono ((Ent.perm (perm_nth h)).trans (Ent.head _ _))
  obtain ⟨lo, hi, h1, h2⟩ := ha
  exact ⟨lo, hi, hx b _ h1, h2⟩
theorem Sat.cell {W0 w : World} {L : List Assn} {i b off : Nat} {T : TypeId} {cs : List Value} {v : Value} (s : Sat W0 (sep L) w) (h : nth L i = some (row b T cs)) (hv : cs[off]? = some v) :
    w.cell? ⟨b, off, none⟩ = some v := by
  obtain ⟨lo, hi, h1, _⟩ := s.getRow h
  unfold World.cell?
  simp only [h1]
  simp [hv]
theorem Sat.free {W0 w : World} {L : List Assn} {i b off : Nat} {T : TypeId} {cs : List Value} (s : Sat W0 (sep L) w) (h : nth L i = some (row b T cs)) (hv : off < cs.length) :
    w.frozen? ⟨b, off, none⟩ = false := by
  obtain ⟨lo, hi, h1, h2⟩ := s.getRow h
  unfold World.frozen?
  simp only [h1]
  have := h2 off hv
  simp
  omega
theorem row_of_block {b : Nat} {T : TypeId} {cs : List Value} {lo hi : Nat} (hf : ∀ i, i < cs.length → ¬ (lo ≤ i ∧ i < hi)) : Ent (blk b (.cells cs.toArray T (lo, hi))) (row b T cs) :=
  Ent.of_imp fun _ h => ⟨lo, hi, h, hf⟩
theorem Ent.at {L : List Assn} {i : Nat} {A B : Assn} (hn : nth L i = some A) (h : Ent A B) : Ent (sep L) (sep (setN L i B)) :=
  (Ent.perm (perm_nth hn)).trans ((Ent.cons h (Ent.refl _)).trans (Ent.perm (perm_setN hn)))
theorem nth_setN {α : Type} : ∀ {L : List α} {i : Nat} {a b : α}, nth L i = some a → nth (setN L i b) i = some b
  | [], _, _, _, h => by cases h
  | _ :: _, 0, _, _, _ => rfl
  | _ :: L, i + 1, _, _, h => nth_setN (L := L) (i := i) h
theorem setN_setN {α : Type} : ∀ {L : List α} {i : Nat} {a b : α}, setN (setN L i a) i b = setN L i b
  | [], _, _, _ => rfl
  | _ :: _, 0, _, _ => rfl
  | c :: L, i + 1, _, _ => congrArg (c :: ·) (setN_setN (L := L) (i := i))
theorem Sat.rowPut {W0 w w' : World} {L : List Assn} {i b lo hi : Nat} {T : TypeId} {cs cs' : List Value} (s : Sat W0 (sep L) w) (h : nth L i = some (row b T cs)) (hk : Kept w w')
    (hb : w'.heap[b]? = some (.cells cs'.toArray T (lo, hi))) (hf : ∀ i, i < cs'.length → ¬ (lo ≤ i ∧ i < hi)) (hr : ∀ k, k ≠ b → k < w.heap.size → w'.heap[k]? = w.heap[k]?) : Sat W0 (sep (setN L i (row b T cs'))) w' := by
  obtain ⟨k, x, hx, h1, h2, d, rfl, ⟨l0, h0, ha, hf0⟩, hl⟩ := s.mono (Ent.perm (perm_nth h))
  have s2 : Sat W0 (sep (blk b (.cells cs.toArray T (l0, h0)) :: delN L i)) w := ⟨k, _, hx, h1, h2, d, rfl, ha, hl⟩
  have s3 := s2.put (i := 0) (o' := .cells cs'.toArray T (lo, hi)) rfl hk hb hr
  exact s3.mono ((Ent.cons (row_of_block hf) (Ent.refl _)).trans (Ent.perm (perm_setN h)))
theorem Kept.setCell (w : World) (a : Addr) (v : Value) : Kept w (w.setCell a v) := ⟨rfl, rfl, rfl, by simp⟩
theorem heap_setCell (w : World) {b off lo hi : Nat} {T : TypeId} {cs : List Value} {v : Value} (h : w.heap[b]? = some (.cells cs.toArray T (lo, hi))) :
    (w.setCell ⟨b, off, none⟩ v).heap[b]? = some (.cells (cs.set off v).toArray T (lo, hi)) := by
  simp only [World.setCell, Array.getElem?_modify, if_true, h, Option.map_some]
  simp
theorem Sat.setCell {W0 w : World} {L : List Assn} {i b off : Nat} {T : TypeId} {cs : List Value} {v : Value} (s : Sat W0 (sep L) w) (h : nth L i = some (row b T cs)) :
    Sat W0 (sep (setN L i (row b T (cs.set off v)))) (w.setCell ⟨b, off, none⟩ v) := by
  obtain ⟨lo, hi, h1, h2⟩ := s.getRow h
  exact s.rowPut h (Kept.setCell _ _ _) (heap_setCell w h1) (by simpa using h2) (fun k hk _ => Go.RowKit.Below.heap_setCell w ⟨b, off, none⟩ v k hk)
theorem Sat.newRow {W0 w : World} {L : List Assn} (s : Sat W0 (sep L) w) (T : TypeId) (cs : List Value) : Sat W0 (sep (row w.heap.size T cs :: L)) (w.alloc (.cells cs.toArray T)) :=
  (s.alloc _).mono (Ent.cons (Ent.of_imp fun _ h => ⟨0, 0, h, fun _ _ => by omega⟩) (Ent.refl _))

/-! ### Types -/
/-- Type t is no struct and no array. -/
def Scalar (P : Program) (t : TypeId) : Prop := ∃ d, P.underlying t = some d ∧ (match d with | .struct _ => false | .array _ _ => false | _ => true) = true
/-- Type t is a struct or an array. -/
def IsAgg (P : Program) (t : TypeId) : Prop := ∃ d, P.underlying t = some d ∧ (match d with | .struct _ => true | .array _ _ => true | _ => false) = true
/-- Type t takes sz cells and so many bytes; its zero value's cells. -/
def TyInfo (P : Program) (t : TypeId) (sz bytes : Nat) (z : List Value) : Prop := ∃ i zv, P.info? t = some i ∧ i.size = sz ∧ i.bytes = bytes ∧ i.zero = some zv ∧ zv.cells.toList = z
def TySize (P : Program) (t : TypeId) (sz : Nat) : Prop := ∃ i, P.info? t = some i ∧ i.size = sz
/-- Field f of the struct t is of type ft and begins at cell off. -/
def FieldAt (P : Program) (t : TypeId) (f off : Nat) (ft : TypeId) : Prop := ∃ fs fd i, P.underlying t = some (.struct fs) ∧ fs[f]? = some fd ∧ fd.offset = off ∧ fd.type = ft ∧ P.info? ft = some i ∧ i.size ≠ 0
theorem TyInfo.size {P : Program} {t sz bytes : Nat} {z : List Value} (h : TyInfo P t sz bytes z) : TySize P t sz := let ⟨i, _, h1, h2, _⟩ := h; ⟨i, h1, h2⟩

section run
variable {P : Program} {w : World}
theorem run_underlying' {t : TypeId} {d : TypeDesc} (h : P.underlying t = some d) : (underlying t).run P w = .ok d w := by simp [underlying, h]
theorem run_isAgg_no {t : TypeId} (h : Scalar P t) : (isAgg t).run P w = .ok false w := by
  obtain ⟨d, h1, h2⟩ := h
  unfold isAgg
  simp only [Sem.run_bind, run_underlying' h1, Result.andThen_ok]
  cases d <;> first | rfl | cases h2
theorem run_isAgg_yes {t : TypeId} (h : IsAgg P t) : (isAgg t).run P w = .ok true w := by
  obtain ⟨d, h1, h2⟩ := h
  unfold isAgg
  simp only [Sem.run_bind, run_underlying' h1, Result.andThen_ok]
  cases d <;> first | rfl | cases h2
theorem run_sizeOf' {t : TypeId} {sz : Nat} (h : TySize P t sz) : (sizeOf t).run P w = .ok sz w := by
  obtain ⟨i, h1, h2⟩ := h
  simp [sizeOf, typeInfo, h1, h2]
theorem run_zeroValue' {t : TypeId} {sz bytes : Nat} {z : List Value} (h : TyInfo P t sz bytes z) : ∃ zv, zv.cells = z.toArray ∧ (zeroValue t).run P w = .ok zv w := by
  obtain ⟨i, zv, h1, h2, h3, h4, h5⟩ := h
  exact ⟨zv, by rw [← h5], by simp [zeroValue, typeInfo, h1, h4]⟩
theorem run_loadCellsFrom {b off : Nat} {cs : List Value} (hc : ∀ k v, cs[k]? = some v → w.cell? ⟨b, off + k, none⟩ = some v) :
    ∀ (n i : Nat) (acc : Array Value), i + n ≤ cs.length → (loadCellsFrom ⟨b, off, none⟩ i n acc).run P w = .ok (acc ++ ((cs.drop i).take n).toArray) w
  | 0, i, acc, _ => by simp [loadCellsFrom]
  | n + 1, i, acc, h => by
    have hlt : i < cs.length := by omega
    have hv : cs[i]? = some cs[i] := List.getElem?_eq_getElem hlt
    have ha : Addr.add ⟨b, off, none⟩ i = ⟨b, off + i, none⟩ := by unfold Addr.add; split <;> simp_all
    unfold loadCellsFrom
    simp only [Sem.run_bind, run_load, ha, hc i _ hv, Result.andThen_ok]
    rw [run_loadCellsFrom hc n (i + 1) _ (by omega)]
    congr 1
    rw [List.drop_eq_getElem_cons hlt, List.take_succ_cons]
    simp
theorem addr_add (b off n : Nat) : Addr.add ⟨b, off, none⟩ n = ⟨b, off + n, none⟩ := by unfold Addr.add; split <;> simp_all
theorem Sat.loadCells {W0 : World} {L : List Assn} {i b off n : Nat} {T : TypeId} {cs : List Value} (s : Sat W0 (sep L) w) (h : nth L i = some (row b T cs)) (hn : off + n ≤ cs.length) :
    (Go.loadCells ⟨b, off, none⟩ n).run P w = .ok ((cs.drop off).take n).toArray w := by
  unfold Go.loadCells
  rw [run_loadCellsFrom (cs := cs.drop off) (fun k v hk => s.cell h (by rw [List.getElem?_drop] at hk; exact hk)) n 0 #[] (by simp; omega)]
  simp
/-- vs laid over cs from cell k on. -/
def lay (cs : List Value) (k : Nat) : List Value → List Value
  | [] => cs
  | v :: vs => lay (cs.set k v) (k + 1) vs
theorem lay_length : ∀ (vs : List Value) (cs : List Value) (k : Nat), (lay cs k vs).length = cs.length
  | [], _, _ => rfl
  | v :: vs, cs, k => by rw [lay, lay_length vs]; simp
theorem lay_eq : ∀ (vs cs : List Value) (k : Nat), k + vs.length ≤ cs.length → lay cs k vs = cs.take k ++ vs ++ cs.drop (k + vs.length)
  | [], cs, k, _ => by simp [lay]
  | v :: vs, cs, k, h => by
    simp only [List.length_cons] at h
    have hk : k < cs.length := by omega
    rw [lay, lay_eq vs _ _ (by simp; omega)]
    apply List.ext_getElem?
    intro j
    simp only [List.getElem?_append, List.length_take, List.length_append, List.length_set, List.length_cons, List.getElem?_take, List.getElem?_drop, List.getElem?_set]
    repeat' split
    all_goals first
      | rfl
      | (exfalso; omega)
      | (congr 1; omega)
      | skip
    all_goals (simp only [List.getElem?_cons]; split <;> first | rfl | (exfalso; omega) | (congr 1; omega) | skip)
theorem Sat.storeCells {W0 : World} {L : List Assn} {i b off : Nat} {T : TypeId} : ∀ {vs cs : List Value} {k : Nat} {w : World}, Sat W0 (sep L) w → nth L i = some (row b T cs) →
    off + k + vs.length ≤ cs.length → (∀ v ∈ vs, v.oneCell' = true) →
    ∃ w', (Go.storeCells ⟨b, off, none⟩ vs k).run P w = .ok () w' ∧ Sat W0 (sep (setN L i (row b T (lay cs (off + k) vs)))) w' := by
  intro vs
  induction vs generalizing L with
  | nil =>
    intro cs k w s h _ _
    refine ⟨w, rfl, ?_⟩
    have e : ∀ {L : List Assn} {i : Nat} {A : Assn}, nth L i = some A → setN L i A = L := by
      intro L
      induction L with
      | nil => intro i A h; cases h
      | cons B L ih => intro i A h; cases i with
        | zero => simp only [nth, Option.some.injEq] at h; subst h; rfl
        | succ i => exact congrArg (B :: ·) (ih h)
    simp only [lay]
    rw [e h]
    exact s
  | cons v vs ih =>
    intro cs k w s h hl ho
    simp only [List.length_cons] at hl
    have hlt : off + k < cs.length := by omega
    unfold Go.storeCells
    simp only [Sem.run_bind, addr_add]
    rw [run_store P w _ v .plain (ho v (List.mem_cons_self ..)), s.cell h (List.getElem?_eq_getElem hlt)]
    simp only [s.free h hlt, Bool.false_eq_true, if_false, Result.andThen_ok]
    have s2 := s.setCell (off := off + k) (v := v) h
    obtain ⟨w', h1, h2⟩ := ih (cs := cs.set (off + k) v) (k := k + 1) s2 (nth_setN h) (by simp; omega) (fun u hu => ho u (List.mem_cons_of_mem _ hu))
    refine ⟨w', h1, ?_⟩
    rw [setN_setN] at h2
    exact h2
end run
end Go.Sl
