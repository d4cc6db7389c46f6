/-
  ScriptWords answers true at any text, and leaves all as it was.
-/
import Derived.Test.YtokbjejbgbdkoaaDoorRows
import Derived.Test.YtokbjejbgbdkoaaDoorGEvS5D
import Derived.Test.YtokbjejbgbdkoaaDoorGSwRun
import Derived.Test.YtokbjejbgbdkoaaDoorGSwWit
import Derived.Test.YtokbjejbgbdkoaaDoorGCallsT
import Derived.Test.YtokbjejbgbdkoaaDoorGYdW2
import Derived.ChangeMaps5
set_option linter.unusedSimpArgs false
namespace Go.Proofs.YtokbjejbgbdkoaaDoor.scriptWords
open Go Go.ChangeShapes Go.WideShapes Go.ChangeAt Go.RowKit Go.Sl Go.Evl
set_option linter.unusedVariables false
theorem aw (T1 T5 : Nat) : Ctr Tryd.prog 7 [] ((tabs T1 T5).map Tb.asn) (fun v Ps => v = .bool true ∧ Ps = (tabs T1 T5).map Tb.asn) :=
  closed_tables (p := evPar) evPar_ok (fun b hb => by
    rcases List.mem_cons.1 hb with rfl | hb
    · exact ⟨by show 1 < 8; omega, rel1⟩
    · rw [List.mem_singleton.1 hb]
      exact ⟨by show 5 < 8; omega, rel5⟩) (by show [1, 5].Nodup; decide) (fun K => congrFun (congrFun (congrFun runs T1) T5) K) ⟨Tryd.f7, Tryd.func7, rfl, rfl⟩
theorem own : ownKnob Tryd.prog.godebug = none := by kernel_rfl
theorem laidOut : laidOutB Tryd.prog = true := by kernel_rfl
set_option maxRecDepth 100000 in
theorem lifted (os : Os) (started : os.Started) (H : Type) (enc : TypeId × Value → H) :
    ReturnsInHanded {} Tryd.checked os 3 .any (fun w args => (Rows.scriptWordsSpec.pre enc Tryd.prog Tryd.f3 [] false w args ∧ laidMetH Tryd.prog lay0 w) ∧ sizedMet enc Tryd.prog Tryd.f3 (OpenSpec.ofChange Rows.scriptWordsSpec) false w args)
      (Rows.scriptWordsSpec.post enc Tryd.prog Tryd.f3 false true false false) := by
  refine returnsInHanded_of_change_and (C := Tryd.checked) (X := fun w _ => laidMetH Tryd.prog lay0 w) (fun _ _ _ hh h => h.of_heap hh) own started (by kernel_rfl) Tryd.func3
    (ChangeSpec.witness_at (enc := enc) (C := Tryd.checked) (os := os) (X := fun w _ => laidMetH Tryd.prog lay0 w) false (laidWorld os) #[.string ⟨#[]⟩] 8 rfl (by kernel_rfl) (by kernel_rfl) (by kernel_rfl) (by kernel_rfl) (by kernel_rfl) (laidWorld_met os _)) ?_
  intro W base args ds gs before hval0 hW hcnd _ hX _
  have hval : ∀ (j : Nat) t v, Tryd.f3.params[j]? = some t → args[j]? = some v → Value.okWide Tryd.prog W .any base t v := hval0
  have hW' := hW
  obtain ⟨p, q, hA0, hV, rfl, hfz, hnd⟩ := hW
  have hA : DataW.TrodAll enc Tryd.prog W 0 (fun _ => true) true Tryd.f3.params.toList args.toList ds p := hA0
  rw [Tryd.params3] at hA hval
  obtain ⟨v0, vs0, d0, ds0, p0, q0, hargs, rfl, rfl, h0, r0⟩ := trodAll_cons hA
  obtain ⟨rfl, rfl, rfl⟩ := trodAll_nil r0
  obtain rfl : args = #[v0] := by cases args; simp_all
  obtain ⟨s, rfl, rfl, rfl, hs⟩ := Go.ChangeMaps.open_string Tryd.underlying9 (hval 0 9 v0 rfl rfl) h0
  obtain ⟨T1, T5, hg⟩ := tables hX
  have hc := callsT W (bs := tabs T1 T5) (by show [1, 5].Nodup; decide) hg (ScriptWords_walk (Tb.asn ⟨1, bd1, T1, cs1⟩) (Tb.asn ⟨5, bd5, T5, cs5⟩) (aw T1 T5) s.data.toList (by rw [Array.length_toList]; exact hs))
  refine hc.mono fun e W' ⟨he, hb⟩ => ?_
  subst he
  obtain ⟨rfl, rfl⟩ := trodVars_none hV
  exact ⟨_, rfl, post_law hW' laidOut (by kernel_rfl) rfl rfl Tryd.underlying4 rfl rfl rfl hb⟩
end Go.Proofs.YtokbjejbgbdkoaaDoor.scriptWords
