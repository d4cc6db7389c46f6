/-
  Calls in a world in which listed tables lie. It proves nothing of the program by itself.
-/
import Derived.Test.YtokbjejbgbdkoaaDoorGEv15
import Derived.Test.YtokbjejbgbdkoaaDoorGSl9
import Derived.Below
set_option linter.unusedVariables false
set_option linter.unusedSimpArgs false
namespace Go.Evl
open Go Go.Sl Go.ChangeShapes Go.WideShapes Go.ChangeAt Go.RowKit
/-- All blocks but these, as they were. -/
def restA (w : World) (used : List Nat) : Assn := fun h => ∀ b, b < w.heap.size → b ∉ used → h b = w.heap[b]?
theorem Sat.tail {W0 w : World} {A : Assn} : ∀ {L : List Assn}, Sat W0 (sep (L ++ [A])) w → Sat W0 (sep [A]) w
  | [], h => h
  | _ :: _, h => Sat.tail (h.mono (Ent.drop _ _))
end Go.Evl
namespace Go.Evl
open Go Go.Sl
theorem rest_open {W : World} {u : List Nat} {b : Nat} {o : Obj} (hb : W.heap[b]? = some o) (hu : b ∉ u) : Ent (restA W u) (sep [blk b o, restA W (b :: u)]) := by
  refine Ent.of_imp fun x hx => ?_
  have hlt : b < W.heap.size := by
    rcases Nat.lt_or_ge b W.heap.size with g | g
    · exact g
    · rw [Array.getElem?_eq_none g] at hb; cases hb
  have hxb : x b = some o := (hx b hlt hu).trans hb
  refine ⟨fun k => if k = b then some o else none, fun k => if k = b then none else x k, fun k => ?_, ?_, if_pos rfl, ?_⟩
  · by_cases e : k = b
    · exact .inr (if_pos e)
    · exact .inl (if_neg e)
  · funext k
    unfold Frag.join
    dsimp only
    by_cases e : k = b
    · subst e
      rw [if_pos rfl, hxb]
    · rw [if_neg e, if_neg e]
  · refine ⟨fun k => if k = b then none else x k, fun _ => none, fun _ => .inr rfl, ?_, fun k hk hn => ?_, trivial⟩
    · funext k
      unfold Frag.join
      dsimp only
      cases (if k = b then none else x k) <;> rfl
    · rw [List.mem_cons, not_or] at hn
      exact (if_neg hn.1).trans (hx k hk hn.2)
theorem rest_close {W : World} {u : List Nat} {b : Nat} {o : Obj} (hb : W.heap[b]? = some o) : Ent (sep [blk b o, restA W (b :: u)]) (restA W u) := by
  refine Ent.of_imp fun x hx => ?_
  obtain ⟨h1, h2, d, rfl, ha, h3, h4, d2, rfl, hr, _⟩ := hx
  intro k hk hn
  by_cases e : k = b
  · subst e
    unfold Frag.join
    rw [show h1 k = some o from ha, hb]
  · have h := hr k hk (by rw [List.mem_cons, not_or]; exact ⟨e, hn⟩)
    rw [Array.getElem?_eq_getElem hk] at h ⊢
    exact Frag.le_join_right d k _ (Frag.le_join_left h3 h4 k _ h)
theorem old_rest (W : World) : Ent (old W) (restA W []) := Ent.of_imp fun _ h b hb _ => h b hb
theorem rest_old (W : World) : Ent (restA W []) (old W) := Ent.of_imp fun _ h b hb => h b hb (by simp)
theorem old_two {W : World} {a b : Nat} {x y : Obj} (ha : W.heap[a]? = some x) (hb : W.heap[b]? = some y) (hab : a ≠ b) : Ent (sep [old W]) (sep [blk a x, blk b y, restA W [b, a]]) :=
  (Ent.head _ _).trans ((old_rest W).trans ((rest_open ha (by simp)).trans (Ent.cons (Ent.refl _) ((Ent.head _ _).trans (rest_open hb (by simpa using Ne.symm hab))))))
theorem two_old {W : World} {a b : Nat} {x y : Obj} (ha : W.heap[a]? = some x) (hb : W.heap[b]? = some y) : Ent (sep [blk a x, blk b y, restA W [b, a]]) (sep [old W]) :=
  (Ent.cons (L := [blk b y, restA W [b, a]]) (M := [restA W [a]]) (Ent.refl _) ((rest_close hb).trans Ent.one)).trans ((rest_close ha).trans ((rest_old W).trans Ent.one))
theorem Ctr.framed {P : Program} {f : FuncId} {args : List Value} {L : List Assn} {u : Value} {R : Assn} (h : Ctr P f args L (fun v Ps => v = u ∧ Ps = L)) : Ctr P f args (L ++ [R]) (fun v Ps => v = u ∧ Ps = L ++ [R]) :=
  ⟨h.1, fun W0 Fr w hs => (h.2 W0 (sep [R, Fr]) w (hs.mono (by rw [List.append_assoc]; exact Ent.frame))).mono fun _ _ ⟨v, Ps, he, ⟨h1, h2⟩, s⟩ =>
    ⟨v, L ++ [R], he, ⟨h1, rfl⟩, by subst h2; exact s.mono (by rw [List.append_assoc]; exact Ent.unframe)⟩⟩
theorem Sat.oldCell {W0 W w : World} {L : List Assn} (h : Sat W0 (sep (old W :: L)) w) {b : Nat} (hb : b < W.heap.size) : w.heap[b]? = W.heap[b]? := by
  obtain ⟨k, x, hx, ho⟩ := h.mono (Ent.head _ _)
  have h1 := ho b hb
  rw [Array.getElem?_eq_getElem hb] at h1 ⊢
  exact hx b _ h1
end Go.Evl
