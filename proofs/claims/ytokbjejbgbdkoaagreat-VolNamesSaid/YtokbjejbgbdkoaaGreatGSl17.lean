/-
  Truth values compared. It proves nothing of the program by itself.
-/
import Derived.Test.YtokbjejbgbdkoaaGreatGSl16
set_option linter.unusedVariables false
set_option linter.unusedSimpArgs false
namespace Go.Sl
open Go
section
variable {P : Program} {e : Env} {o : Oper} {x y : Operand}
theorem p_beql {t t' : TypeId} {a b : Bool} (hop : o.op = .binOp .eql t x y t') (hx : ev e x = .bool a) (hy : ev e y = .bool b) (ht : P.underlying t = some .bool) : PRun P e o (.bool (a == b)) := by
  intro w; unfold execOp; rw [hop]; simp only [hx, hy]
  have : (Op.equal t (.bool a) (.bool b)).run P w = .ok (a == b) w := by
    have key : ∀ d, (Op.equalIn (d + 1) t (.bool a) (.bool b)).run P w = .ok (a == b) w := by
      intro d
      simp [Op.equalIn, run_underlying' ht]
    exact key 9999
  have hb : (binOp .eql t (.bool a) (.bool b)).run P w = .ok (.bool (a == b)) w := by
    unfold binOp
    simp only [Sem.run_bind, this, Result.andThen_ok, Sem.run_pure]
  simp only [eqGuard, Sem.run_bind]
  show ((binOp .eql t (.bool a) (.bool b)).run P w).andThen _ = _
  rw [hb]
  rfl
theorem p_bneq {t t' : TypeId} {a b : Bool} (hop : o.op = .binOp .neq t x y t') (hx : ev e x = .bool a) (hy : ev e y = .bool b) (ht : P.underlying t = some .bool) : PRun P e o (.bool (!(a == b))) := by
  intro w; unfold execOp; rw [hop]; simp only [hx, hy]
  have : (Op.equal t (.bool a) (.bool b)).run P w = .ok (a == b) w := by
    have key : ∀ d, (Op.equalIn (d + 1) t (.bool a) (.bool b)).run P w = .ok (a == b) w := by
      intro d
      simp [Op.equalIn, run_underlying' ht]
    exact key 9999
  have hb : (binOp .neq t (.bool a) (.bool b)).run P w = .ok (.bool (!(a == b))) w := by
    unfold binOp
    simp only [Sem.run_bind, this, Result.andThen_ok, Sem.run_pure]
  simp only [eqGuard, Sem.run_bind]
  show ((binOp .neq t (.bool a) (.bool b)).run P w).andThen _ = _
  rw [hb]
  rfl
end
end Go.Sl
