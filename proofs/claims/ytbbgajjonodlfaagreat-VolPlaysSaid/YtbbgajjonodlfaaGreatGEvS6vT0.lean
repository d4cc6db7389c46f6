/-
  Orders checked. It proves nothing of the program by itself.
-/
import Derived.Test.YtbbgajjonodlfaaGreatGEvS6vP
import Derived.KernelRfl
import Derived.Test.YtbbgajjonodlfaaGreatGEvS6vT1
set_option linter.unusedVariables false
set_option linter.unusedSimpArgs false
namespace Go.Proofs.YtbbgajjonodlfaaGreat
open Go Go.Sl Go.Evl
theorem ords0 : (List.range' 0 91).all okF = true := by kernel_rfl
end Go.Proofs.YtbbgajjonodlfaaGreat
namespace Go.Proofs.YtbbgajjonodlfaaGreat
open Go Go.Sl Go.Evl
theorem names_all : (Tryz.prog.funcs.toList.all fun fn => !(fn.name == "runtime.NumGoroutine")) = true := by kernel_rfl
theorem nfuncs : Tryz.prog.funcs.size = 184 := by kernel_rfl
theorem okF_all (f : Nat) (hf : f < 184) : okF f = true := by
  by_cases h0 : f < 91
  · exact List.all_eq_true.1 ords0 f (List.mem_range'_1.2 ⟨by omega, by omega⟩)
  by_cases h1 : f < 184
  · exact List.all_eq_true.1 ords1 f (List.mem_range'_1.2 ⟨by omega, by omega⟩)
  omega
set_option maxRecDepth 100000 in
theorem tabs_ok (f : Nat) (fn : Func) (c : Code) (hf : Tryz.prog.funcs[f]? = some fn) (hb : fn.body = some c) : okB (evOrd (tabN (evMask f))) c = true := by
  have hlt : f < 184 := by
    rcases Nat.lt_or_ge f 184 with g | g
    · exact g
    · rw [Array.getElem?_eq_none (by rw [nfuncs]; exact g)] at hf; cases hf
  have h1 := okF_all f hlt
  have h2 : fnB Tryz.prog f = some (c, fn.ntmps, fn.results.toList) := by
    unfold fnB
    simp only [hf, hb]
  have h3 : okF f = okB (evOrd (tabN (evMask f))) c := by
    unfold okF
    rw [h2]
  rw [← h3]
  exact h1
theorem evPar_ok : ParOk evPar where
  name f fn h := by
    have h1 := List.all_eq_true.1 names_all fn (List.mem_of_getElem? (by rw [Array.getElem?_toList]; exact h))
    simpa using h1
  mixed := by show Tryz.prog.follows .mixedOrders = true; kernel_rfl
  tabs f fn c hf hb := by
    unfold evPar at hf ⊢
    dsimp only at hf ⊢
    exact tabs_ok f fn c hf hb
  orc f F h := by
    have h : evOrc f = some F := h
    unfold evOrc at h
    cases hb0 : Nat.beq f 59 with
    | true =>
      simp only [hb0] at h
      cases h
      have := Nat.eq_of_beq_eq_true hb0
      subst this
      exact noZero_ok (P := Tryz.prog) Tryz.func59 (by kernel_rfl) rfl (by kernel_rfl) (t := 57) (ps := #[3]) (by kernel_rfl) Tryz.underlying57
    | false =>
      cases hb1 : Nat.beq f 168 with
      | true =>
        simp only [hb0, hb1] at h
        cases h
        have := Nat.eq_of_beq_eq_true hb1
        subst this
        exact cnt_ok (P := Tryz.prog) Tryz.func168 (by kernel_rfl) rfl (by kernel_rfl) (by kernel_rfl)
      | false =>
        cases hb2 : Nat.beq f 67 with
        | true =>
          simp only [hb0, hb1, hb2] at h
          cases h
          have := Nat.eq_of_beq_eq_true hb2
          subst this
          exact crc_ok more_ok
        | false =>
          cases hb3 : Nat.beq f 160 with
          | true =>
            simp only [hb0, hb1, hb2, hb3] at h
            cases h
            have := Nat.eq_of_beq_eq_true hb3
            subst this
            exact fill_ok fillN_ok
          | false =>
            simp only [hb0, hb1, hb2, hb3] at h
            cases h
end Go.Proofs.YtbbgajjonodlfaaGreat
namespace Go.Proofs.YtbbgajjonodlfaaGreat
open Go Go.Sl Go.Evl
theorem awake25_runs : callF (evC evPar 10000000) Tryz.prog evPar.msk evPar.orc 6 .nil h0 (fun v _ => asB v fun b => b) = true := by kernel_rfl
theorem awake25 : Ctr Tryz.prog 6 [] [] (fun v Ps => v = .bool true ∧ Ps = []) :=
  closed_true (p := evPar) evPar_ok awake25_runs ⟨Tryz.f6, Tryz.func6, rfl, rfl⟩
end Go.Proofs.YtbbgajjonodlfaaGreat
