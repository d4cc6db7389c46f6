/-
  ScriptKnown answers true, and leaves all as it was.
-/
import Derived.Test.YticbhhakdmoahaaDoorRows
import Derived.Test.YticbhhakdmoahaaDoorGSl10
import Derived.Test.YticbhhakdmoahaaDoorGEvS4D
import Derived.Test.YticbhhakdmoahaaDoorGScRun
import Derived.Test.YticbhhakdmoahaaDoorGScWit
set_option linter.unusedSimpArgs false
namespace Go.Proofs.YticbhhakdmoahaaDoor.scriptKnown
open Go Go.ChangeShapes Go.WideShapes Go.ChangeAt Go.RowKit Go.Sl Go.Evl
set_option linter.unusedVariables false
/-- All blocks but these, as they were. -/
def restA (w : World) (used : List Nat) : Assn := fun h => ∀ b, b < w.heap.size → b ∉ used → h b = w.heap[b]?
theorem split_blocks (w : World) : ∀ (bs : List Tb) (used : List Nat), (bs.map (·.g)).Nodup → (∀ b ∈ bs, b.g ∉ used) → (∀ b ∈ bs, w.heap[b.g]? = some b.obj) → ∀ h : Frag, (∀ b, h b = if b ∈ used then none else w.heap[b]?) →
    sep (bs.map Tb.asn ++ [restA w ((bs.map (·.g)).reverse ++ used)]) h
  | [], used, _, _, _, h, hh => by
    refine ⟨h, fun _ => none, fun _ => .inr rfl, ?_, fun b _ hb => by rw [hh b]; exact if_neg (show ¬ b ∈ used from hb), trivial⟩
    funext b
    unfold Frag.join
    cases h b <;> rfl
  | x :: bs, used, hn, hu, hg, h, hh => by
    rw [List.map_cons, List.nodup_cons] at hn
    have hx := hg x (List.mem_cons_self ..)
    have ih := split_blocks w bs (x.g :: used) hn.2 (fun b hb => by
      rw [List.mem_cons, not_or]
      exact ⟨fun e => hn.1 (List.mem_map.2 ⟨b, hb, e⟩), hu b (List.mem_cons_of_mem _ hb)⟩) (fun b hb => hg b (List.mem_cons_of_mem _ hb)) (fun b => if b ∈ x.g :: used then none else w.heap[b]?) (fun _ => rfl)
    refine ⟨fun b => if b = x.g then some x.obj else none, fun b => if b ∈ x.g :: used then none else w.heap[b]?, fun b => ?_, ?_, if_pos rfl, ?_⟩
    · by_cases e : b = x.g
      · exact .inr (if_pos (by rw [e]; exact List.mem_cons_self ..))
      · exact .inl (if_neg e)
    · funext b
      rw [hh b]
      unfold Frag.join
      dsimp only
      by_cases e : b = x.g
      · subst e
        rw [if_pos rfl, if_neg (hu x (List.mem_cons_self ..)), hx]
      · rw [if_neg e]
        by_cases g : b ∈ used
        · rw [if_pos g, if_pos (List.mem_cons_of_mem _ g)]
        · rw [if_neg g, if_neg (by rw [List.mem_cons, not_or]; exact ⟨e, g⟩)]
    · have e2 : ((x :: bs).map (·.g)).reverse ++ used = (bs.map (·.g)).reverse ++ (x.g :: used) := by simp
      rw [e2]
      exact ih
theorem Sat.tail {W0 w : World} {A : Assn} : ∀ {L : List Assn}, Sat W0 (sep (L ++ [A])) w → Sat W0 (sep [A]) w
  | [], h => h
  | _ :: _, h => Sat.tail (h.mono (Ent.drop _ _))
/-- A contract that asks for blocks: called in a world in which they lie. -/
theorem callsT {P : Program} {f : FuncId} {args : List Value} (w : World) {bs : List Tb} (hn : (bs.map (·.g)).Nodup) (hg : ∀ b ∈ bs, w.heap[b.g]? = some b.obj) (h : Ctr P f args (bs.map Tb.asn) (fun v Ps => v = .bool true ∧ Ps = bs.map Tb.asn)) :
    Calls P f args.toArray w fun e w' => e = .returned (.bool true) ∧ Below w.heap.size w w' := by
  have hs : Sat w (sep (bs.map Tb.asn ++ [restA w ((bs.map (·.g)).reverse ++ [])])) w :=
    ⟨Kept.refl w, fun b => w.heap[b]?, fun _ _ h => h, split_blocks w bs [] hn (fun _ _ => by simp) hg _ (fun b => by simp)⟩
  refine (h.2 w _ w hs).mono ?_
  rintro en w' ⟨v, Ps, he, ⟨rfl, rfl⟩, s⟩
  obtain ⟨k, x, hx, h1, h2, d, rfl, hr, _⟩ := Sat.tail s
  refine ⟨he, k.os, k.tape, k.output, k.size, fun b hlt => ?_⟩
  by_cases e : b ∈ (bs.map (·.g)).reverse ++ []
  · rw [List.append_nil, List.mem_reverse, List.mem_map] at e
    obtain ⟨y, hy, rfl⟩ := e
    rw [hg y hy]
    obtain ⟨i, hi, rfl⟩ := List.getElem_of_mem hy
    exact s.get (i := i) (by rw [nth_eq, List.getElem?_append_left (by simpa using hi), List.getElem?_map, List.getElem?_eq_getElem hi]; rfl)
  · have h5 : h1 b = w.heap[b]? := hr b hlt e
    rw [Array.getElem?_eq_getElem hlt] at h5 ⊢
    exact hx b _ (Frag.le_join_left _ _ b _ h5)
theorem spec (T1 T5 : Nat) : Ctr Tryd.prog 3 [] ((tabs T1 T5).map Tb.asn) (fun v Ps => v = .bool true ∧ Ps = (tabs T1 T5).map Tb.asn) :=
  closed_tables (p := evPar) evPar_ok (fun b hb => by
    rcases List.mem_cons.1 hb with rfl | hb
    · exact ⟨by show 1 < 8; omega, rel1⟩
    · rw [List.mem_singleton.1 hb]
      exact ⟨by show 5 < 8; omega, rel5⟩) (by show [1, 5].Nodup; decide) (fun K => congrFun (congrFun (congrFun runs T1) T5) K) ⟨Tryd.f3, Tryd.func3, rfl, rfl⟩
theorem own : ownKnob Tryd.prog.godebug = none := by kernel_rfl
theorem laidOut : laidOutB Tryd.prog = true := by kernel_rfl
set_option maxRecDepth 100000 in
theorem lifted (os : Os) (started : os.Started) (H : Type) (enc : TypeId × Value → H) :
    ReturnsInHanded {} Tryd.checked os 3 .any (fun w args => (Rows.scriptKnownSpec.pre enc Tryd.prog Tryd.f3 [] false w args ∧ laidMetH Tryd.prog lay0 w) ∧ sizedMet enc Tryd.prog Tryd.f3 (OpenSpec.ofChange Rows.scriptKnownSpec) false w args)
      (Rows.scriptKnownSpec.post enc Tryd.prog Tryd.f3 false true false false) := by
  refine returnsInHanded_of_change_and (C := Tryd.checked) (X := fun w _ => laidMetH Tryd.prog lay0 w) (fun _ _ _ hh h => h.of_heap hh) own started (by kernel_rfl) Tryd.func3
    (ChangeSpec.witness_at (enc := enc) (C := Tryd.checked) (os := os) (X := fun w _ => laidMetH Tryd.prog lay0 w) false (laidWorld os) #[] 8 rfl (by kernel_rfl) (by kernel_rfl) (by kernel_rfl) (by kernel_rfl) (by kernel_rfl) (laidWorld_met os _)) ?_
  intro W base args ds gs before hval0 hW hcnd _ hX _
  have hval : ∀ (j : Nat) t v, Tryd.f3.params[j]? = some t → args[j]? = some v → Value.okWide Tryd.prog W .any base t v := hval0
  have hW' := hW
  obtain ⟨p, q, hA0, hV, rfl, hfz, hnd⟩ := hW
  have hA : DataW.TrodAll enc Tryd.prog W 0 (fun _ => true) true Tryd.f3.params.toList args.toList ds p := hA0
  rw [Tryd.params3] at hA hval
  obtain ⟨hx, rfl, rfl⟩ := trodAll_nil hA
  obtain rfl : args = #[] := by cases args; simp_all
  obtain ⟨T1, T5, hg⟩ := tables hX
  refine (callsT W (by show [1, 5].Nodup; decide) hg (spec T1 T5)).mono fun e W' ⟨he, hb⟩ => ?_
  subst he
  obtain ⟨rfl, rfl⟩ := trodVars_none hV
  exact ⟨_, rfl, post_law hW' laidOut (by kernel_rfl) rfl rfl Tryd.underlying4 rfl rfl rfl hb⟩
end Go.Proofs.YticbhhakdmoahaaDoor.scriptKnown
