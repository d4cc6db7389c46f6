/-
  Calls in a world in which listed tables lie. It proves nothing of the program by itself.
-/
import Derived.Test.YtokbjejbgbdkoaaDoorGEv15
import Derived.Test.YtokbjejbgbdkoaaDoorGSl10
import Derived.Below
set_option linter.unusedSimpArgs false
namespace Go.Evl
open Go Go.Sl Go.ChangeShapes Go.WideShapes Go.ChangeAt Go.RowKit
set_option linter.unusedVariables false
/-- All blocks but these, as they were. -/
def restA (w : World) (used : List Nat) : Assn := fun h => ∀ b, b < w.heap.size → b ∉ used → h b = w.heap[b]?
theorem split_blocks (w : World) : ∀ (bs : List Tb) (used : List Nat), (bs.map (·.g)).Nodup → (∀ b ∈ bs, b.g ∉ used) → (∀ b ∈ bs, w.heap[b.g]? = some b.obj) → ∀ h : Frag, (∀ b, h b = if b ∈ used then none else w.heap[b]?) →
    sep (bs.map Tb.asn ++ [restA w ((bs.map (·.g)).reverse ++ used)]) h
  | [], used, _, _, _, h, hh => by
    refine ⟨h, fun _ => none, fun _ => .inr rfl, ?_, fun b _ hb => by rw [hh b]; exact if_neg (show ¬ b ∈ used from hb), trivial⟩
    funext b
    unfold Frag.join
    cases h b <;> rfl
  | x :: bs, used, hn, hu, hg, h, hh => by
    rw [List.map_cons, List.nodup_cons] at hn
    have hx := hg x (List.mem_cons_self ..)
    have ih := split_blocks w bs (x.g :: used) hn.2 (fun b hb => by
      rw [List.mem_cons, not_or]
      exact ⟨fun e => hn.1 (List.mem_map.2 ⟨b, hb, e⟩), hu b (List.mem_cons_of_mem _ hb)⟩) (fun b hb => hg b (List.mem_cons_of_mem _ hb)) (fun b => if b ∈ x.g :: used then none else w.heap[b]?) (fun _ => rfl)
    refine ⟨fun b => if b = x.g then some x.obj else none, fun b => if b ∈ x.g :: used then none else w.heap[b]?, fun b => ?_, ?_, if_pos rfl, ?_⟩
    · by_cases e : b = x.g
      · exact .inr (if_pos (by rw [e]; exact List.mem_cons_self ..))
      · exact .inl (if_neg e)
    · funext b
      rw [hh b]
      unfold Frag.join
      dsimp only
      by_cases e : b = x.g
      · subst e
        rw [if_pos rfl, if_neg (hu x (List.mem_cons_self ..)), hx]
      · rw [if_neg e]
        by_cases g : b ∈ used
        · rw [if_pos g, if_pos (List.mem_cons_of_mem _ g)]
        · rw [if_neg g, if_neg (by rw [List.mem_cons, not_or]; exact ⟨e, g⟩)]
    · have e2 : ((x :: bs).map (·.g)).reverse ++ used = (bs.map (·.g)).reverse ++ (x.g :: used) := by simp
      rw [e2]
      exact ih
theorem Sat.tail {W0 w : World} {A : Assn} : ∀ {L : List Assn}, Sat W0 (sep (L ++ [A])) w → Sat W0 (sep [A]) w
  | [], h => h
  | _ :: _, h => Sat.tail (h.mono (Ent.drop _ _))
/-- A contract that asks for blocks: called in a world in which they lie. -/
theorem callsT {P : Program} {f : FuncId} {args : List Value} (w : World) {bs : List Tb} (hn : (bs.map (·.g)).Nodup) (hg : ∀ b ∈ bs, w.heap[b.g]? = some b.obj) (h : Ctr P f args (bs.map Tb.asn) (fun v Ps => v = .bool true ∧ Ps = bs.map Tb.asn)) :
    Calls P f args.toArray w fun e w' => e = .returned (.bool true) ∧ Below w.heap.size w w' := by
  have hs : Sat w (sep (bs.map Tb.asn ++ [restA w ((bs.map (·.g)).reverse ++ [])])) w :=
    ⟨Kept.refl w, fun b => w.heap[b]?, fun _ _ h => h, split_blocks w bs [] hn (fun _ _ => by simp) hg _ (fun b => by simp)⟩
  refine (h.2 w _ w hs).mono ?_
  rintro en w' ⟨v, Ps, he, ⟨rfl, rfl⟩, s⟩
  obtain ⟨k, x, hx, h1, h2, d, rfl, hr, _⟩ := Sat.tail s
  refine ⟨he, k.os, k.tape, k.output, k.size, fun b hlt => ?_⟩
  by_cases e : b ∈ (bs.map (·.g)).reverse ++ []
  · rw [List.append_nil, List.mem_reverse, List.mem_map] at e
    obtain ⟨y, hy, rfl⟩ := e
    rw [hg y hy]
    obtain ⟨i, hi, rfl⟩ := List.getElem_of_mem hy
    exact s.get (i := i) (by rw [nth_eq, List.getElem?_append_left (by simpa using hi), List.getElem?_map, List.getElem?_eq_getElem hi]; rfl)
  · have h5 : h1 b = w.heap[b]? := hr b hlt e
    rw [Array.getElem?_eq_getElem hlt] at h5 ⊢
    exact hx b _ (Frag.le_join_left _ _ b _ h5)
end Go.Evl
