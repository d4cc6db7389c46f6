/-
  The seat's program as the evaluator's parameters. It proves nothing of the program by itself.
-/
import Derived.Test.YticfabhcfdmbjaaProg
import Derived.Test.YticfabhcfdmbjaaEv16
set_option linter.unusedVariables false
set_option linter.unusedSimpArgs false
namespace Go.Proofs.Yticfabhcfdmbjaa
open Go Go.Sl Go.Evl
def evTab : Tr Nat := .nd (.nd (.nd (.nd (.nd (.nd (.nd .nil (some 288231475663604767) .nil) (some 310748382946138175) .nil) (some 71) .nil) (some 2536616511766664559482682866719) (.nd (.nd .nil (some 19) .nil) (some 562949953421343) (.nd .nil (some 35218731966215) .nil))) (some 1333) (.nd (.nd (.nd (.nd .nil (some 4159) .nil) (some 21) .nil) (some 8391) (.nd .nil (some 5) .nil)) (some 537133567) (.nd (.nd .nil (some 604275) .nil) (some 17592186077439) (.nd .nil (some 1217485249602318769183) .nil)))) none (.nd (.nd (.nd (.nd (.nd .nil (some 5) .nil) (some 71) .nil) (some 30765) (.nd .nil (some 5) .nil)) (some 324518553658426744797554597560079) (.nd (.nd .nil (some 17389) .nil) (some 261) (.nd .nil (some 33543) .nil))) (some 102003094761999006720412525693300214085218022067107433021431) (.nd (.nd (.nd .nil (some 5) .nil) (some 18014398510399603) (.nd .nil (some 17179886351) .nil)) (some 4295) (.nd (.nd .nil (some 524831) .nil) (some 31) (.nd .nil (some 277) .nil))))) none (.nd (.nd (.nd (.nd (.nd (.nd .nil (some 5) .nil) (some 19811876336456246526235124733) .nil) (some 5) (.nd .nil (some 42535296023574879666274036850519702559) .nil)) (some 374241516623083620876241780096888458553282837708787) (.nd (.nd .nil (some 31) .nil) (some 469893631) (.nd .nil (some 1333065575601045263) .nil))) (some 1726331766887832391089468531971353097305830767396386302351591300136903) (.nd (.nd (.nd (.nd .nil (some 4197407) .nil) (some 71) .nil) (some 5) (.nd .nil (some 21) .nil)) (some 58397) (.nd (.nd .nil (some 88514063479506048144137268093) .nil) (some 9462026805901117060829) (.nd .nil (some 22997644815212700899627017342834150232570911) .nil)))) none (.nd (.nd (.nd (.nd (.nd .nil (some 271) .nil) (some 17708878880335823391667) .nil) (some 2147618575) (.nd .nil (some 5) .nil)) (some 2993155353259473976723873093682742521873731655434183) (.nd (.nd .nil (some 604275) .nil) (some 1285) (.nd .nil (some 21268317252094917911888073248812900111) .nil))) (some 373) (.nd (.nd (.nd .nil (some 19) .nil) (some 70368744308851) (.nd .nil (some 8592039695) .nil)) (some 493327) (.nd (.nd .nil (some 92060285550921865256619122963974684161519714299) .nil) (some 1075) (.nd .nil (some 16661) .nil)))))
noncomputable def evMask (f : Nat) : Nat := Option.rec (motive := fun _ => Nat) 0 (fun m => m) (evTab.get (Nat.succ f))
noncomputable def evOrc (f : Nat) : Option CallF := Bool.rec (motive := fun _ => Option CallF) none (some (noZeroF 5)) (Nat.beq f 47)
noncomputable def evPar : Par := ⟨Try.prog, evMask, evOrc, fun _ _ => none⟩
theorem okB_none : ∀ c : Code, okB (fun _ => none) c = true := by
  intro c
  induction c <;> simp_all [okB, okR]
theorem names_all : (Try.prog.funcs.toList.all fun fn => !(fn.name == "runtime.NumGoroutine")) = true := by kernel_rfl
theorem evPar_ok : ParOk evPar where
  name f fn h := by
    have h1 := List.all_eq_true.1 names_all fn (List.mem_of_getElem? (by rw [Array.getElem?_toList]; exact h))
    simpa using h1
  mixed := by show Try.prog.follows .mixedOrders = true; kernel_rfl
  tabs _ _ c _ _ := okB_none c
  orc f F h := by
    have h : evOrc f = some F := h
    unfold evOrc at h
    cases hb : Nat.beq f 47 with
    | false => simp only [hb] at h; cases h
    | true =>
      simp only [hb] at h
      cases h
      have := Nat.eq_of_beq_eq_true hb
      subst this
      exact noZero_ok (P := Try.prog) Try.func47 (by kernel_rfl) rfl (by kernel_rfl) (t := 49) (ps := #[3]) (by kernel_rfl) Try.underlying49
end Go.Proofs.Yticfabhcfdmbjaa
namespace Go.Proofs.Yticfabhcfdmbjaa
open Go Go.Sl Go.Evl
theorem awake12_runs : callF (evC evPar 10000000) Try.prog evPar.msk evPar.orc 23 .nil h0 (fun v _ => asB v fun b => b) = true := by kernel_rfl
theorem awake12 : Ctr Try.prog 23 [] [] (fun v Ps => v = .bool true ∧ Ps = []) :=
  closed_true (p := evPar) evPar_ok awake12_runs ⟨Try.f23, Try.func23, rfl, rfl⟩
end Go.Proofs.Yticfabhcfdmbjaa
