/-
  Cells that came in, read again and again. It proves nothing of the program by itself.
-/
import Derived.Test.YtokbjejbgbdkoaaGreatGSl10
set_option linter.unusedVariables false
set_option linter.unusedSimpArgs false
namespace Go.Sl
open Go Go.RowKit Go.ChangeShapes

/-- These cells lie there. -/
def At (w : World) (b off : Nat) (vs : List Value) : Prop := ∀ k v, vs[k]? = some v → w.cell? ⟨b, off + k, none⟩ = some v
def cellsAt (b off : Nat) (vs : List Value) : Assn := fun h => ∀ k v, vs[k]? = some v → ∃ c T f, h b = some (.cells c T f) ∧ c[off + k]? = some v
theorem old_cellsAt {w : World} {b off : Nat} {vs : List Value} (h : At w b off vs) : Ent (old w) (cellsAt b off vs) := Ent.of_imp fun x hx k v hk => by
  have h1 := h k v hk
  unfold World.cell? at h1
  have hb : b < w.heap.size := by
    rcases Nat.lt_or_ge b w.heap.size with g | g
    · exact g
    · rw [Array.getElem?_eq_none g] at h1; cases h1
  have h2 := hx b hb
  cases hw : w.heap[b]? with
  | none => rw [hw] at h1; cases h1
  | some o =>
    rw [hw] at h1 h2
    cases o with
    | cells c T f => exact ⟨c, T, f, h2, by simpa using h1⟩
    | _ => cases h1
theorem Sat.at {W0 w : World} {L : List Assn} {i b off : Nat} {vs : List Value} (s : Sat W0 (sep L) w) (h : nth L i = some (cellsAt b off vs)) : At w b off vs := by
  obtain ⟨_, x, hx, ha⟩ := s.mono ((Ent.perm (perm_nth h)).trans (Ent.head _ _))
  intro k v hk
  obtain ⟨c, T, f, h1, h2⟩ := ha k v hk
  unfold World.cell?
  rw [show w.heap[b]? = some (.cells c T f) from hx b _ h1]
  simpa using h2
section
variable {P : Program} {e : Env} {o : Oper} {Rs : List Assn}
theorem q_loadC {t : TypeId} {x : Operand} {b off i sz : Nat} {vs : List Value} (hop : o.op = .load t x) (ht : IsAgg P t) (hsz : TySize P t sz) (hx : ev e x = ptr b off) (hn : nth Rs i = some (cellsAt b off vs)) (hl : vs.length = sz) : QRun P e Rs o (.agg vs.toArray) := by
  intro W0 w hs; unfold execOp; rw [hop]; simp only [hx]
  have h1 : (Go.loadCells ⟨b, off, none⟩ sz).run P w = .ok vs.toArray w := by
    unfold Go.loadCells
    rw [run_loadCellsFrom (cs := vs) (fun k v hk => hs.at hn k v hk) sz 0 #[] (by omega)]
    simp [← hl]
  simp only [Instr.loadAt, Instr.sureAddr, loadVar, Sem.run_bind, Sem.run_pure, Result.andThen_ok, run_isAgg_yes ht, if_true, run_sizeOf' hsz, h1]
theorem q_load1C {t : TypeId} {x : Operand} {b off k i : Nat} {vs : List Value} {v : Value} (hop : o.op = .load t x) (ht : Scalar P t) (hx : ev e x = ptr b (off + k)) (hn : nth Rs i = some (cellsAt b off vs)) (hv : vs[k]? = some v) : QRun P e Rs o v := by
  intro W0 w hs; unfold execOp; rw [hop]; simp only [hx]
  simp only [Instr.loadAt, Instr.sureAddr, loadVar, Sem.run_bind, Sem.run_pure, Result.andThen_ok, run_isAgg_no ht, Bool.false_eq_true, if_false, run_load, hs.at hn k v hv]
end
theorem weights_all {H : Type} {P : Program} {e : TypeId} {d : DataW H} {n : Nat} : ∀ {l : List (DataW H)}, d ∈ l → n ∈ d.weights P e → n ∈ DataW.weightsAll P e l
  | _ :: r, hd, hn => by
    simp only [DataW.weightsAll, List.mem_append]
    rcases List.mem_cons.1 hd with rfl | h
    · exact .inl hn
    · exact .inr (weights_all h hn)
/-- A slice that came in: nil, or its elements' cells lie there. -/
theorem open_cells {H : Type} {enc : TypeId × Value → H} {P : Program} {W : World} {sp : Nat → Bool} {held : Bool} {t e : TypeId} {v : Value} {d : DataW H} {p : List MemPlace} {sz : Nat} (ht : P.underlying t = some (.slice e)) (hz : P.cellsOf e = sz) (hz0 : 0 < sz)
    (hv : ∃ a n c, v = .slice a n c) (h : DataW.Trod enc P W 0 sp held t v d p) :
    ∃ (q : Option Addr) (cap : Nat) (cs : List (List Value)), v = .slice q cs.length cap ∧ cs.length ≤ maxLen ∧ (0 < cs.length → ∃ b off, q = some ⟨b, off, none⟩ ∧ ∀ i (hi : i < cs.length), At W b (off + i * sz) cs[i]) ∧
      ∀ c ∈ cs, ∃ m x, DataW.trod enc P W 0 sp held m e c = some x ∧ ∀ n ∈ x.1.weights P e, n ∈ d.weights P t := by
  obtain ⟨a, n, c, rfl⟩ := hv
  obtain ⟨fuel, hf⟩ := h
  rcases DataW.trod_slice ht hf with ⟨h0, _⟩ | ⟨a', len, cap, elems, rest, m, _, h0, hd, _, hlc, hcm, hel, hi, _, _⟩
  · simp [Value.cells] at h0
    obtain ⟨rfl, rfl, rfl⟩ := h0
    exact ⟨none, 0, [], rfl, by simp, fun h => by simp at h, fun _ h => by cases h⟩
  · simp [Value.cells] at h0
    obtain ⟨rfl, rfl, rfl⟩ := h0
    have h1 : ∀ i, i < n → ∃ cs', W.cells? 0 (a'.add (i * sz)) sz = some cs' ∧ ∃ x, DataW.trod enc P W 0 sp held m e cs' = some x ∧ ∀ n ∈ x.1.weights P e, n ∈ d.weights P t := by
      intro i hlt
      have h2 := hi i hlt
      have he : i < elems.length := by omega
      rw [List.getElem?_eq_getElem he, hz] at h2
      obtain ⟨cs', h3, h4⟩ := Option.bind_eq_some_iff.1 h2
      refine ⟨cs', h3, _, h4, fun k hk => ?_⟩
      rw [show d = _ from congrArg Prod.fst hd]
      simp only [DataW.weights, ht, List.mem_cons, List.mem_append]
      exact .inr (.inl (weights_all (List.mem_map.2 ⟨_, List.getElem_mem he, rfl⟩) hk))
    have h2 : ∃ cs : List (List Value), cs.length = n ∧ ∀ i (hl : i < cs.length), W.cells? 0 (a'.add (i * sz)) sz = some cs[i] ∧ ∃ x, DataW.trod enc P W 0 sp held m e cs[i] = some x ∧ ∀ n ∈ x.1.weights P e, n ∈ d.weights P t := by
      clear hlc hcm hel hi hf
      revert h1
      generalize n = N
      intro h1
      induction N with
      | zero => exact ⟨[], rfl, fun i h => by simp at h⟩
      | succ n ih =>
        obtain ⟨cs, hl, hc⟩ := ih (fun i hlt => h1 i (by omega))
        obtain ⟨c', hc'⟩ := h1 n (by omega)
        refine ⟨cs ++ [c'], by simp [hl], fun i hlt => ?_⟩
        rcases Nat.lt_or_ge i n with g | g
        · rw [List.getElem_append_left (by omega)]
          exact hc i (by omega)
        · have : i = n := by simp [hl] at hlt; omega
          subst this
          rw [List.getElem_append_right (by omega)]
          simpa [hl] using hc'
    obtain ⟨cs, rfl, hc⟩ := h2
    refine ⟨some a', c, cs, rfl, Nat.le_trans hlc hcm, fun h0 => ?_, fun c hm => ?_⟩
    · obtain ⟨b, off, spot⟩ := a'
      have hs : spot = none := by
        obtain ⟨_, hlen, hcell⟩ := World.cells?_some (hc 0 h0).1
        have h5 := hcell 0 hz0
        rw [List.getElem?_eq_getElem (by omega)] at h5
        simpa [Addr.add] using World.cell?_spot h5
      subst hs
      refine ⟨b, off, rfl, fun i hi k v hk => ?_⟩
      obtain ⟨_, hlen, hcell⟩ := World.cells?_some (hc i hi).1
      have hk' : k < sz := by rw [← hlen]; exact (List.getElem?_eq_some_iff.1 hk).1
      have h5 := hcell k hk'
      rw [hk, addr_add, addr_add] at h5
      exact h5
    · obtain ⟨i, hi, rfl⟩ := List.getElem_of_mem hm
      exact ⟨m, (hc i hi).2⟩
/-- To each its own. -/
theorem pick_list {α β : Type} {R : α → β → Prop} : ∀ {l : List α}, (∀ a ∈ l, ∃ b, R a b) → ∃ m : List β, m.length = l.length ∧ ∀ i (h : i < l.length) (h' : i < m.length), R l[i] m[i]
  | [], _ => ⟨[], rfl, fun i h => by simp at h⟩
  | a :: l, h => by
    obtain ⟨b, hb⟩ := h a (List.mem_cons_self ..)
    obtain ⟨m, hm, hr⟩ := pick_list (l := l) (fun x hx => h x (List.mem_cons_of_mem _ hx))
    refine ⟨b :: m, by simp [hm], fun i h1 h2 => ?_⟩
    cases i with
    | zero => exact hb
    | succ i => exact hr i (by simpa using h1) (by simpa using h2)
end Go.Sl
