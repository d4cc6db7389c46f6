/-
  PlayKnown answers true, and leaves all as it was.
-/
import Derived.Test.YticbhhakdmoahaaGreatDoorRows
import Derived.Test.YticbhhakdmoahaaGreatDoorDSl10
import Derived.Test.YticbhhakdmoahaaGreatDoorDEvSZD
import Derived.Test.YticbhhakdmoahaaGreatDoorDEvQP
import Derived.Test.YticbhhakdmoahaaGreatDoorDPlRun
import Derived.Test.YticbhhakdmoahaaGreatDoorDPlWit
set_option linter.unusedSimpArgs false
namespace Go.Proofs.YticbhhakdmoahaaGreatDoor.playKnown
open Go Go.ChangeShapes Go.WideShapes Go.ChangeAt Go.RowKit Go.Sl Go.Evl
set_option linter.unusedVariables false
theorem spec : Ctr Tryz.prog 3 [] [] (fun v Ps => v = .bool true ∧ Ps = []) :=
  closed_true (p := EvQP.evPar2) EvQP.evPar2_ok runs ⟨Tryz.f3, Tryz.func3, rfl, rfl⟩
theorem own : ownKnob Tryz.prog.godebug = none := by kernel_rfl
theorem laidOut : laidOutB Tryz.prog = true := by kernel_rfl
set_option maxRecDepth 100000 in
theorem lifted (os : Os) (started : os.Started) (H : Type) (enc : TypeId × Value → H) :
    ReturnsInHanded {} Tryz.checked os 3 .any (fun w args => (Rows.playKnownSpec.pre enc Tryz.prog Tryz.f3 [] false w args ∧ laidMetH Tryz.prog lay0 w) ∧ sizedMet enc Tryz.prog Tryz.f3 (OpenSpec.ofChange Rows.playKnownSpec) false w args)
      (Rows.playKnownSpec.post enc Tryz.prog Tryz.f3 false true false false) := by
  refine returnsInHanded_of_change_and (C := Tryz.checked) (X := fun w _ => laidMetH Tryz.prog lay0 w) (fun _ _ _ hh h => h.of_heap hh) own started (by kernel_rfl) Tryz.func3
    (ChangeSpec.witness_at (enc := enc) (C := Tryz.checked) (os := os) (X := fun w _ => laidMetH Tryz.prog lay0 w) false (laidWorld os) #[] 8 rfl (by kernel_rfl) (by kernel_rfl) (by kernel_rfl) (by kernel_rfl) (by kernel_rfl) (laidWorld_met os _)) ?_
  intro W base args ds gs before hval0 hW hcnd _ _ _
  have hval : ∀ (j : Nat) t v, Tryz.f3.params[j]? = some t → args[j]? = some v → Value.okWide Tryz.prog W .any base t v := hval0
  have hW' := hW
  obtain ⟨p, q, hA0, hV, rfl, hfz, hnd⟩ := hW
  have hA : DataW.TrodAll enc Tryz.prog W 0 (fun _ => true) true Tryz.f3.params.toList args.toList ds p := hA0
  rw [Tryz.params3] at hA hval
  obtain ⟨hx, rfl, rfl⟩ := trodAll_nil hA
  obtain rfl : args = #[] := by cases args; simp_all
  refine (Ctr.calls0 W spec).mono fun e W' ⟨he, hb⟩ => ?_
  subst he
  obtain ⟨rfl, rfl⟩ := trodVars_none hV
  exact ⟨_, rfl, post_law hW' laidOut (by kernel_rfl) rfl rfl Tryz.underlying4 rfl rfl rfl hb⟩
end Go.Proofs.YticbhhakdmoahaaGreatDoor.playKnown
