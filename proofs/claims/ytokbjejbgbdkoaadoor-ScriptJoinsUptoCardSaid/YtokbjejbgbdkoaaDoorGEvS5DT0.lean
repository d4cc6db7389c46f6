/-
  Orders checked. It proves nothing of the program by itself.
-/
import Derived.Test.YtokbjejbgbdkoaaDoorGEvS5DP
import Derived.KernelRfl
set_option linter.unusedVariables false
set_option linter.unusedSimpArgs false
namespace Go.Proofs.YtokbjejbgbdkoaaDoor
open Go Go.Sl Go.Evl
theorem ords0 : (List.range' 0 127).all okF = true := by kernel_rfl
end Go.Proofs.YtokbjejbgbdkoaaDoor
namespace Go.Proofs.YtokbjejbgbdkoaaDoor
open Go Go.Sl Go.Evl
theorem names_all : (Tryd.prog.funcs.toList.all fun fn => !(fn.name == "runtime.NumGoroutine")) = true := by kernel_rfl
theorem nfuncs : Tryd.prog.funcs.size = 127 := by kernel_rfl
theorem okF_all (f : Nat) (hf : f < 127) : okF f = true := by
  by_cases h0 : f < 127
  · exact List.all_eq_true.1 ords0 f (List.mem_range'_1.2 ⟨by omega, by omega⟩)
  omega
set_option maxRecDepth 100000 in
theorem tabs_ok (f : Nat) (fn : Func) (c : Code) (hf : Tryd.prog.funcs[f]? = some fn) (hb : fn.body = some c) : okB (evOrd (tabN (evMask f))) c = true := by
  have hlt : f < 127 := by
    rcases Nat.lt_or_ge f 127 with g | g
    · exact g
    · rw [Array.getElem?_eq_none (by rw [nfuncs]; exact g)] at hf; cases hf
  have h1 := okF_all f hlt
  have h2 : fnB Tryd.prog f = some (c, fn.ntmps, fn.results.toList) := by
    unfold fnB
    simp only [hf, hb]
  have h3 : okF f = okB (evOrd (tabN (evMask f))) c := by
    unfold okF
    rw [h2]
  rw [← h3]
  exact h1
theorem evPar_ok : ParOk evPar where
  name f fn h := by
    have h1 := List.all_eq_true.1 names_all fn (List.mem_of_getElem? (by rw [Array.getElem?_toList]; exact h))
    simpa using h1
  mixed := by show Tryd.prog.follows .mixedOrders = true; kernel_rfl
  tabs f fn c hf hb := by
    unfold evPar at hf ⊢
    dsimp only at hf ⊢
    exact tabs_ok f fn c hf hb
  orc f F h := by
    have h : evOrc f = some F := h
    unfold evOrc at h
    cases hb0 : Nat.beq f 41 with
    | true =>
      simp only [hb0] at h
      cases h
      have := Nat.eq_of_beq_eq_true hb0
      subst this
      exact cntS_ok (P := Tryd.prog) Tryd.func41 (by kernel_rfl) rfl (by kernel_rfl) (by kernel_rfl)
    | false =>
      cases hb1 : Nat.beq f 65 with
      | true =>
        simp only [hb0, hb1] at h
        cases h
        have := Nat.eq_of_beq_eq_true hb1
        subst this
        exact idxS_ok (P := Tryd.prog) Tryd.func65 (by kernel_rfl) rfl (by kernel_rfl) (by kernel_rfl)
      | false =>
        cases hb2 : Nat.beq f 26 with
        | true =>
          simp only [hb0, hb1, hb2] at h
          cases h
          have := Nat.eq_of_beq_eq_true hb2
          subst this
          exact noEsc_ok (P := Tryd.prog) Tryd.func26 (by kernel_rfl) rfl (by kernel_rfl) (by kernel_rfl)
        | false =>
          simp only [hb0, hb1, hb2] at h
          cases h
end Go.Proofs.YtokbjejbgbdkoaaDoor
