/-
  Calls of methods of interface values; type switches. It proves nothing of the program by itself.
-/
import Derived.Test.YtokbjejbgbdkoaaGreatDoorGSl20
import Derived.Test.YtokbjejbgbdkoaaGreatDoorGEv13
set_option linter.unusedVariables false
set_option linter.unusedSimpArgs false
namespace Go.Sl
open Go Go.Evl
section
variable {P : Program} {e : Env} {o : Oper} {x : Operand}
theorem c_invoke {t f : Nat} {v : Value} {name : String} (hop : o.op = .call { callee := .invoke x name, args := #[], argTypes := #[] }) (hr : ev e x = .iface t v) (hm : mthB P t name = some f) : CRun P e o f [v] := by
  intro hc w
  unfold execOp; rw [hop]
  simp only [resolve, hr, Sem.run_bind, Sem.run_pure, Result.andThen_ok, invoke]
  have e0 : #[Value.iface t v] ++ Array.map (ev e) #[] = (Value.iface t v :: []).toArray := by apply Array.ext'; simp
  have e1 : ((Value.iface t v :: []).toArray)[0]? = some (.iface t v) := rfl
  have e3 : ((Value.iface t v :: []).toArray).extract 1 ((Value.iface t v :: []).toArray).size = ([] : List Value).toArray := by
    apply Array.ext'
    simp
  have hfu : ∃ k, P.types.size + Made.depth = k + 1 := ⟨P.types.size + 99, rfl⟩
  obtain ⟨k, hk⟩ := hfu
  rw [e0]
  simp only [e1, e3, callMethod, Sem.run_bind, run_program, Result.andThen_ok, hk, mthB_sound hm]
  have e4 : (#[v] ++ ([] : List Value).toArray : Array Value) = ([v] : List Value).toArray := by simp
  rw [e4, callable_run hc]
/-- What a type switch hands over where the type is another one. -/
theorem zv_ex {a sz bytes : Nat} {z : List Value} (h : TyInfo P a sz bytes z) : ∃ zv, ∀ w, (zeroValue a).run P w = .ok zv w := by
  obtain ⟨i, zv, h1, h2, h3, h4, h5⟩ := h
  exact ⟨zv, fun w => by simp [zeroValue, typeInfo, h1, h4]⟩
noncomputable def zvOf {a sz bytes : Nat} {z : List Value} (h : TyInfo P a sz bytes z) : Value := Classical.choose (zv_ex h)
theorem p_taOther {xT a t sz bytes : TypeId} {z : List Value} {fs : Array Field} {v : Value} (hop : o.op = .typeAssert x xT a true) (ht : P.underlying a = some (.struct fs)) (hz : TyInfo P a sz bytes z) (hx : ev e x = .iface t v) (hne : t ≠ a) : PRun P e o (.tuple #[zvOf hz, .bool false]) := by
  intro w
  have hz2 := Classical.choose_spec (zv_ex hz) w
  unfold execOp; rw [hop]; simp only [hx]
  simp only [Instr.typeAssert, Sem.run_bind, run_underlying' ht, Result.andThen_ok]
  simp only [hne, if_false, if_true, Sem.run_bind]
  rw [show (zeroValue a).run P w = .ok (zvOf hz) w from hz2]
  rfl
end
end Go.Sl
