/-
  From a contract to a row's statement. It proves nothing of the program by itself.
-/
import Derived.Test.YtokbjejbgbdkoaaGreatGSl9
import Derived.WalkKit
import Derived.ProofKit
import Derived.OpenShut
set_option linter.unusedVariables false
set_option linter.unusedSimpArgs false
namespace Go.Sl
open Go Go.RowKit Go.ChangeShapes

/-- What was there when the call began, as it was. -/
def old (w : World) : Assn := fun h => ∀ b, b < w.heap.size → h b = w.heap[b]?
theorem Sat.ofOld (w : World) : Sat w (sep [old w]) w := by
  refine ⟨Kept.refl w, fun b => w.heap[b]?, fun _ _ h => h, fun b => w.heap[b]?, fun _ => none, fun _ => .inr rfl, ?_, fun _ _ => rfl, trivial⟩
  funext b
  show w.heap[b]? = match w.heap[b]? with | some o => some o | none => none
  cases w.heap[b]? <;> rfl
theorem Sat.toBelow {w w' : World} {L : List Assn} (h : Sat w (sep (old w :: L)) w') : Below w.heap.size w w' := by
  obtain ⟨k, x, hx, ho⟩ := h.mono (Ent.head _ _)
  refine ⟨k.os, k.tape, k.output, k.size, fun b hb => ?_⟩
  have h1 := ho b hb
  rw [Array.getElem?_eq_getElem hb] at h1 ⊢
  exact hx b _ h1
theorem Ctr.calls0 {P : Program} {f : FuncId} {args : List Value} (w : World) (h : Ctr P f args [] (fun v Ps => v = .bool true ∧ Ps = [])) :
    Calls P f args.toArray w fun e w' => e = .returned (.bool true) ∧ Below w.heap.size w w' :=
  (h.2 w (old w) w (Sat.ofOld w)).mono fun _ _ ⟨_, _, he, ⟨hv, hp⟩, hs⟩ => by
    subst he hv hp
    exact ⟨rfl, hs.toBelow⟩
theorem Ctr.calls1 {P : Program} {f : FuncId} {args : List Value} (w : World) (h : Ctr P f args [old w] (fun v Ps => v = .bool true ∧ Ps = [old w])) :
    Calls P f args.toArray w fun e w' => e = .returned (.bool true) ∧ Below w.heap.size w w' :=
  (h.2 w (sep []) w ((Sat.ofOld w).mono (Ent.append (L := [old w]) (M := []) (M' := [sep []]) (Ent.refl _) Ent.one))).mono fun _ _ ⟨_, _, he, ⟨hv, hp⟩, hs⟩ => by
    subst he hv hp
    exact ⟨rfl, hs.toBelow⟩
theorem trodAll_below {H : Type} {enc : TypeId × Value → H} {P : Program} (hl : laidOutB P = true) {W W' : World} (hb : Below W.heap.size W W') :
    ∀ {ts : List TypeId} {vs : List Value} {ds : List (DataW H)} {ps : List MemPlace}, (ts.all fun t => P.readableRec t && decide (t < P.types.size)) = true → DataW.TrodAll enc P W 0 (fun _ => true) true ts vs ds ps → (∀ x ∈ ps, x.block < W.heap.size) → DataW.TrodAll enc P W' 0 (fun b => decide (b < W.heap.size)) true ts vs ds ps
  | [], _, _, _, _, h, _ => by
    obtain ⟨rfl, rfl, rfl⟩ := trodAll_nil h
    exact rfl
  | _ :: _, _, _, _, hr, h, hlt => by
    obtain ⟨v, vs1, d, ds1, a, b, rfl, rfl, rfl, h1, h2⟩ := trodAll_cons h
    simp only [List.all_cons, Bool.and_eq_true, decide_eq_true_eq] at hr
    exact ⟨a, b, Below.trod hl hr.1.1 hr.1.2 h1 hb (fun x hx => hlt x (List.mem_append_left _ hx)), trodAll_below hl hb hr.2 h2 (fun x hx => hlt x (List.mem_append_right _ hx)), rfl⟩
theorem post_law {H : Type} {enc : TypeId × Value → H} {P : Program} {f : Func} {s : ChangeSpec} {apart fresh handsOn : Bool} {W W' : World} {args : Array Value} {ds gs : List (DataW H)} {before : List MemPlace} {bt : TypeId}
    (hW : DataW.Whole enc P f.params.toList s.vars apart W args.toList ds gs before) (hl : laidOutB P = true) (hr : (f.params.toList.all fun t => P.readableRec t && decide (t < P.types.size)) = true)
    (hv : s.vars = []) (hres : f.resultTypes = #[bt]) (hbt : P.underlying bt = some .bool) (h1 : (s.fn H (ds ++ gs)).results = [.lit (.bool true)]) (h2 : (s.fn H (ds ++ gs)).args = ds) (h3 : (s.fn H (ds ++ gs)).vars = []) (hb : Below W.heap.size W W') :
    s.post enc P f apart fresh handsOn false W args (.bool true) W' := by
  have hW' := hW
  obtain ⟨p, q, hA, hV, rfl, hfz, hnd⟩ := hW'
  rw [hv] at hV
  obtain ⟨rfl, rfl⟩ := trodVars_none hV
  have hA2 : DataW.TrodAll enc P W' 0 (fun b => decide (b < W.heap.size)) true f.params.toList args.toList ds p := trodAll_below hl hb hr hA (fun x hx => by simpa using hW.lt x (by simpa using hx))
  refine ⟨_, _, _, [], p, [], hW, ?_, ?_, ?_, hb.frame _, fun h => by cases h⟩
  · rw [h1, hres]
    exact trodAll_mk1 (shut_bool hbt _)
  · rw [h2]
    exact hA2
  · rw [h3, hv]
    rfl
end Go.Sl
