/-
  Calls of methods of interface values; type switches. It proves nothing of the program by itself.
-/
import Derived.Test.YtokbjejbgbdkoaaDoorGSl20
import Derived.Test.YtokbjejbgbdkoaaDoorGEv13
set_option linter.unusedVariables false
set_option linter.unusedSimpArgs false
namespace Go.Sl
open Go Go.Evl
section
variable {P : Program} {e : Env} {o : Oper} {x : Operand}
theorem c_invoke {t f : Nat} {v : Value} {name : String} (hop : o.op = .call { callee := .invoke x name, args := #[], argTypes := #[] }) (hr : ev e x = .iface t v) (hm : mthB P t name = some f) : CRun P e o f [v] := by
  intro hc w
  unfold execOp; rw [hop]
  simp only [resolve, hr, Sem.run_bind, Sem.run_pure, Result.andThen_ok, invoke]
  have e0 : #[Value.iface t v] ++ Array.map (ev e) #[] = (Value.iface t v :: []).toArray := by apply Array.ext'; simp
  have e1 : ((Value.iface t v :: []).toArray)[0]? = some (.iface t v) := rfl
  have e3 : ((Value.iface t v :: []).toArray).extract 1 ((Value.iface t v :: []).toArray).size = ([] : List Value).toArray := by
    apply Array.ext'
    simp
  have hfu : ∃ k, P.types.size + Made.depth = k + 1 := ⟨P.types.size + 99, rfl⟩
  obtain ⟨k, hk⟩ := hfu
  rw [e0]
  simp only [e1, e3, callMethod, Sem.run_bind, run_program, Result.andThen_ok, hk, mthB_sound hm]
  have e4 : (#[v] ++ ([] : List Value).toArray : Array Value) = ([v] : List Value).toArray := by simp
  rw [e4, callable_run hc]
end
end Go.Sl
