/-
  A slice that is only read, wherever it lies. It proves nothing of the program by itself.
-/
import Derived.Test.YtokbjejbgbdkoaaGreatGSl12
set_option linter.unusedVariables false
set_option linter.unusedSimpArgs false
namespace Go.Sl
open Go
/-- A slice of n elements of these cells: its memory is not ours to write. -/
def view (sz : Nat) (v : Value) (n : Nat) (vs : List Value) : Assn := fun h =>
  vs.length = n * sz ∧ ∃ q cap, v = .slice q n cap ∧ n ≤ cap ∧ cap ≤ 9223372036854775807 ∧ (0 < n → ∃ b off, q = some ⟨b, off, none⟩ ∧ cellsAt b off vs h)
/-- v[l:h]. -/
def subSl (sz : Nat) (v : Value) (l h : Nat) : Value := match v with
  | .slice q _ cap => .slice (if cap = l then q else q.map (·.add (l * sz))) (h - l) (cap - l)
  | v => v
theorem cellsAt_row {b off : Nat} {T : TypeId} {cs vs : List Value} (h : (cs.drop off).take vs.length = vs) : ∀ x, row b T cs x → cellsAt b off vs x := by
  rintro x ⟨lo, hi, hx, _⟩ k v hk
  refine ⟨_, _, _, hx, ?_⟩
  have hkl : k < vs.length := (List.getElem?_eq_some_iff.1 hk).1
  rw [← h, List.getElem?_take, if_pos hkl, List.getElem?_drop] at hk
  simpa using hk
theorem cellsAt_sub {b off : Nat} {vs : List Value} {l m : Nat} : ∀ x, cellsAt b off vs x → cellsAt b (off + l) ((vs.drop l).take m) x := by
  intro x h k v hk
  rw [List.getElem?_take] at hk
  split at hk
  · rw [List.getElem?_drop] at hk
    obtain ⟨c, T, f, h1, h2⟩ := h _ _ hk
    exact ⟨c, T, f, h1, by rw [Nat.add_assoc]; exact h2⟩
  · cases hk
theorem view_of_row {b off n cap sz : Nat} {T : TypeId} {cs ys : List Value} (hl : off + n * sz ≤ cs.length) (hy : (cs.drop off).take (n * sz) = ys) (hc : n ≤ cap) (hm : cap ≤ 9223372036854775807) : Ent (row b T cs) (view sz (slc b off n cap) n ys) :=
  Ent.of_imp fun x h => by
    have hyl : ys.length = n * sz := by rw [← hy]; simp; omega
    exact ⟨hyl, _, _, rfl, hc, hm, fun _ => ⟨b, off, rfl, cellsAt_row (by rw [hyl]; exact hy) x h⟩⟩
theorem view_of_vec {el sz n : Nat} {v : Value} {xs : List Value} : Ent (vec el sz v n xs) (view sz v n xs) :=
  Ent.of_imp fun x ⟨h1, h2⟩ => by
    refine ⟨h1, ?_⟩
    rcases h2 with ⟨rfl, rfl⟩ | ⟨b, cap, rest, rfl, h3, h4, h5, h6⟩
    · exact ⟨none, 0, rfl, Nat.le_refl _, by omega, fun h => by omega⟩
    · exact ⟨_, cap, rfl, h3, h4, fun _ => ⟨b, 0, rfl, cellsAt_row (by simp) x h6⟩⟩
theorem view_of_old {w : World} {sz n cap : Nat} {q : Option Addr} {vs : List Value} (h1 : vs.length = n * sz) (h2 : n ≤ cap) (h3 : cap ≤ 9223372036854775807) (h4 : 0 < n → ∃ b off, q = some ⟨b, off, none⟩ ∧ At w b off vs) : Ent (old w) (view sz (.slice q n cap) n vs) := by
  intro x hx
  by_cases hn : 0 < n
  · obtain ⟨b, off, rfl, ha⟩ := h4 hn
    obtain ⟨y, hy, hc⟩ := old_cellsAt ha x hx
    exact ⟨y, hy, h1, _, cap, rfl, h2, h3, fun _ => ⟨b, off, rfl, hc⟩⟩
  · exact ⟨x, Frag.le_refl x, h1, q, cap, rfl, h2, h3, fun h => absurd h hn⟩
theorem view_nil {sz : Nat} {A : Assn} : Ent A (view sz (.slice none 0 0) 0 []) :=
  Ent.of_imp fun _ _ => ⟨by simp, none, 0, rfl, Nat.le_refl _, by omega, fun h => by omega⟩
theorem view_sub {sz n l h : Nat} {v : Value} {vs : List Value} (hlh : l ≤ h) (hh : h ≤ n) : Ent (view sz v n vs) (view sz (subSl sz v l h) (h - l) ((vs.drop (l * sz)).take ((h - l) * sz))) :=
  Ent.of_imp fun x ⟨h1, q, cap, e, h2, h3, h4⟩ => by
    subst e
    have hm : (h - l) * sz + l * sz ≤ n * sz := by rw [← Nat.add_mul]; exact Nat.mul_le_mul_right _ (by omega)
    refine ⟨by rw [List.length_take, List.length_drop]; omega, _, _, rfl, by omega, by omega, fun hp => ?_⟩
    obtain ⟨b, off, rfl, hc⟩ := h4 (by omega)
    refine ⟨b, off + l * sz, ?_, cellsAt_sub x hc⟩
    rw [if_neg (by omega), Option.map_some, addr_add]
theorem Sat.view {W0 w : World} {Hs : List Assn} {i sz n : Nat} {v : Value} {vs : List Value} (s : Sat W0 (sep Hs) w) (hn : nth Hs i = some (view sz v n vs)) :
    vs.length = n * sz ∧ ∃ q cap, v = .slice q n cap ∧ n ≤ cap ∧ cap ≤ 9223372036854775807 ∧ (0 < n → ∃ b off, q = some ⟨b, off, none⟩ ∧ At w b off vs) := by
  obtain ⟨k, x, hx, h1, q, cap, e, h2, h3, h4⟩ := s.mono ((Ent.perm (perm_nth hn)).trans (Ent.head _ _))
  refine ⟨h1, q, cap, e, h2, h3, fun hp => ?_⟩
  obtain ⟨b, off, hq, hc⟩ := h4 hp
  exact ⟨b, off, hq, Sat.at (L := [cellsAt b off vs]) (i := 0) ⟨k, x, hx, x, fun _ => none, fun _ => .inr rfl, by funext y; show x y = match x y with | some o => some o | none => none; cases x y <;> rfl, hc, trivial⟩ rfl⟩
section
variable {P : Program} {e : Env} {o : Oper} {Hs Rs : List Assn}
theorem src_view {sz n i : Nat} {v : Value} {vs : List Value} (hn : nth Hs i = some (view sz v n vs)) (hl : vs.length = n * sz) : Src P Hs v n sz vs := by
  refine ⟨hl, fun W0 w hs => ?_, fun W0 w k hs hk => ?_⟩
  · obtain ⟨_, q, cap, rfl, _⟩ := hs.view hn
    rfl
  · obtain ⟨_, q, cap, rfl, _, _, h4⟩ := hs.view hn
    by_cases hp : 0 < n
    · obtain ⟨b, off, rfl, ha⟩ := h4 hp
      have hle : k * sz ≤ n * sz := Nat.mul_le_mul_right _ hk
      simp only [Builtin.firstCells]
      unfold Go.loadCells
      rw [run_loadCellsFrom (cs := vs) (fun k v hk => ha k v hk) (k * sz) 0 #[] (by omega)]
      simp
    · obtain rfl : n = 0 := by omega
      obtain rfl : k = 0 := by omega
      have : vs = [] := by simpa using hl
      subst this
      cases q with
      | none => simp [Builtin.firstCells]
      | some a => simp [Builtin.firstCells, Go.loadCells, loadCellsFrom]
theorem q_len_view {t el : TypeId} {x : Operand} {v : Value} {n sz i : Nat} {vs : List Value} (hop : o.op = .call { callee := .builtin .len, args := #[x], argTypes := #[t] }) (ht : P.underlying t = some (.slice el)) (hx : ev e x = v) (hn : nth Rs i = some (view sz v n vs)) : QRun P e Rs o (.int .i64 n) := by
  intro W0 w hs
  obtain ⟨_, q, cap, rfl, _⟩ := hs.view hn
  exact p_len hop ht hx w
theorem run_sliceAny {t el : TypeId} {x : Operand} {lo hi : Option Operand} {q : Option Addr} {n cap sz l h : Nat} (hop : o.op = .slice t x lo hi none) (ht : P.underlying t = some (.slice el)) (hsz : TySize P el sz) (hx : ev e x = .slice q n cap)
    (hl : loOf e lo = some (l : Int)) (hh : hiOf e n hi = some (h : Int)) (hb : l ≤ h ∧ h ≤ cap) : PRun P e o (.slice (if cap = l then q else q.map (·.add (l * sz))) (h - l) (cap - l)) := by
  intro w; unfold execOp; rw [hop]; simp only [hx]
  simp only [Instr.sliceAt, Instr.slice, Sem.run_bind, run_underlying' ht, Result.andThen_ok, Option.map_none]
  have := run_bounds (P := P) (s := true) hl hh (cap := cap) (by omega) (w := w)
  simp only [Result.andThen_ok, Sem.run_pure, this, run_sizeOf' hsz]
  cases q <;> (simp; try (split <;> simp_all))
theorem q_viewSlice {t el : TypeId} {x : Operand} {lo hi : Option Operand} {v : Value} {n sz l h i : Nat} {vs : List Value} (hop : o.op = .slice t x lo hi none) (ht : P.underlying t = some (.slice el)) (hsz : TySize P el sz) (hx : ev e x = v) (hn : nth Rs i = some (view sz v n vs))
    (hl : loOf e lo = some (l : Int)) (hh : hiOf e n hi = some (h : Int)) (hb : l ≤ h ∧ h ≤ n) : QRun P e Rs o (subSl sz v l h) := by
  intro W0 w hs
  obtain ⟨_, q, cap, rfl, h2, _⟩ := hs.view hn
  exact run_sliceAny hop ht hsz hx hl hh (by omega) w
theorem q_loadCA {t : TypeId} {x : Operand} {b off j i sz : Nat} {vs us : List Value} (hop : o.op = .load t x) (ht : IsAgg P t) (hsz : TySize P t sz) (hx : ev e x = ptr b (off + j)) (hn : nth Rs i = some (cellsAt b off vs)) (hl : j + sz ≤ vs.length) (hu : (vs.drop j).take sz = us) : QRun P e Rs o (.agg us.toArray) := by
  subst hu
  refine QRun.ent ((Ent.perm (perm_nth hn)).trans ((Ent.head _ _).trans ((Ent.of_imp (B := cellsAt b (off + j) ((vs.drop j).take sz)) fun x h => cellsAt_sub x h).trans Ent.one))) (q_loadC hop ht hsz hx (i := 0) rfl (by simp; omega))
end
theorem Sat.openView {W0 w : World} {Hs : List Assn} {i sz n : Nat} {v : Value} {vs : List Value} (hs : Sat W0 (sep Hs) w) (hn : nth Hs i = some (Sl.view sz v n vs)) (h0 : 0 < n) : ∃ b off cap, v = slc b off n cap ∧ n ≤ cap ∧ vs.length = n * sz ∧ Sat W0 (sep (setN Hs i (cellsAt b off vs))) w := by
  obtain ⟨kk, y, hy, f1, f2, dj, rfl, ⟨h1, q, cap, rfl, h2, h3, h4⟩, hl⟩ := hs.mono (Ent.perm (perm_nth hn))
  obtain ⟨b, off, rfl, hc⟩ := h4 h0
  exact ⟨b, off, cap, rfl, h2, h1, Sat.mono (Ent.perm (perm_setN hn)) ⟨kk, _, hy, f1, f2, dj, rfl, hc, hl⟩⟩
theorem T.openView {P : Program} {N : Nat} {Q : Post} {e : Env} {Hs : List Assn} {c : Code} (i : Nat) {sz n : Nat} {v : Value} {vs : List Value} (hn : nth Hs i = some (view sz v n vs)) (h0 : 0 < n)
    (h : ∀ b off cap, v = slc b off n cap → n ≤ cap → vs.length = n * sz → T P N c Q e (setN Hs i (cellsAt b off vs))) : T P N c Q e Hs := by
  intro W0 a w ha hs
  obtain ⟨b, off, cap, h1, h2, h3, h4⟩ := hs.openView hn h0
  exact h b off cap h1 h2 h3 W0 a w ha h4
theorem RN.openView {P : Program} {N : Nat} {ops : Array Oper} {Q : Next1} {l : List Nat} {e : Env} {Hs : List Assn} (i : Nat) {sz n : Nat} {v : Value} {vs : List Value} (hn : nth Hs i = some (view sz v n vs)) (h0 : 0 < n)
    (h : ∀ b off cap, v = slc b off n cap → n ≤ cap → vs.length = n * sz → RN P N ops Q l e (setN Hs i (cellsAt b off vs))) : RN P N ops Q l e Hs := by
  intro W0 a w ha hs
  obtain ⟨b, off, cap, h1, h2, h3, h4⟩ := hs.openView hn h0
  exact h b off cap h1 h2 h3 W0 a w ha h4
/-- Read only: what was given stays, beside the view of it. -/
theorem T.peek {P : Program} {N : Nat} {Q : Post} {e : Env} {Hs : List Assn} {c : Code} {A : Assn} {p : Prop} (h1 : ∀ x, sep Hs x → ∃ y, Frag.le y x ∧ A y) (h2 : ∀ x, A x → p) (h : p → T P N c Q e Hs) : T P N c Q e Hs := by
  intro W0 a w ha hs
  have hs2 := hs
  obtain ⟨_, x, _, hx⟩ := hs2
  obtain ⟨y, _, hy⟩ := h1 x hx
  exact h (h2 y hy) W0 a w ha hs
theorem RN.peek {P : Program} {N : Nat} {ops : Array Oper} {Q : Next1} {l : List Nat} {e : Env} {Hs : List Assn} {A : Assn} {p : Prop} (h1 : Ent (sep Hs) A) (h2 : ∀ x, A x → p) (h : p → RN P N ops Q l e Hs) : RN P N ops Q l e Hs := by
  intro W0 a w ha hs
  have hs2 := hs
  obtain ⟨_, x, _, hx⟩ := hs2
  obtain ⟨y, _, hy⟩ := h1 x hx
  exact h (h2 y hy) W0 a w ha hs
end Go.Sl
