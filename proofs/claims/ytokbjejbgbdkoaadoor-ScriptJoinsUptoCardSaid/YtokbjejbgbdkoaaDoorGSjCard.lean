/-
  ScriptJoins answers true at any two texts of the bound, and leaves all as it was; the variables that its row lists are tied to the program's text.
-/
import Derived.Test.YtokbjejbgbdkoaaDoorCards
import Derived.Test.YtokbjejbgbdkoaaDoorTie
import Derived.Test.YtokbjejbgbdkoaaDoorGSjLift
import Derived.Test.YtokbjejbgbdkoaaDoorGSjF0
import Derived.SevenTiedAt
import Derived.JoinedCond
set_option linter.unusedVariables false
set_option linter.unusedSimpArgs false
namespace Go.Proofs.YtokbjejbgbdkoaaDoor.scriptJoins
open Go Go.ChangeShapes Go.WideShapes Go.ChangeAt Go.RowKit Go.Sl Go.Evl
theorem inst : Func.isInstance Tryd.prog Tryd.f4 Rows.scriptJoinsUptoRow.origin Rows.scriptJoinsUptoRow.targs := of_decide_eq_true (by kernel_rfl)
theorem wrap : Func.isWrapper Tryd.prog Tryd.f4 Rows.scriptJoinsUptoRow.wrapper Rows.scriptJoinsUptoRow.mainSum := by
  unfold Func.isWrapper; first | (rw [if_pos (by decide +kernel)]; kernel_rfl) | (rw [if_neg (by decide +kernel)]; exact ⟨rfl, rfl⟩)
theorem nm : Tryd.prog.funcNamed Rows.scriptJoinsUptoRow.func = some 4 := by kernel_rfl
theorem saidUpto : Rows.ScriptJoinsUptoSaid :=
  OpenClaim.holds_of_cond 4 Tryd.f4 rfl rfl rfl rfl rfl rfl rfl ⟨rfl, rfl, rfl, rfl, rfl⟩ rfl rfl rfl rfl rfl nm Tryd.func4 joined inst wrap
    (fun os started H enc _ F => by rw [OpenClaim.pre_eq_preRow]; exact lifted os started H enc F)
theorem card : Rows.ScriptJoinsUptoCardSaid :=
  Claim7.holds_tied_plain_at .later [] [.data, .data, .data, .data, .sentinel, .sentinel, .pinned] true (true, "2697a3608537022d37e29cf8864d57c57d696ae0f89e24776626e1337ea91035") true
    saidUpto (fun _ h => by cases h) (by kernel_rfl) (fun _ h => by cases h) scriptJoinsUpto_row_tie rfl ⟨rfl, rfl⟩ (by kernel_rfl) rfl
    (fun f fn hf hfn => by
      obtain rfl : f = 4 := (Option.some.inj (nm.symm.trans hf)).symm
      obtain rfl : fn = Tryd.f4 := (Option.some.inj (Tryd.func4.symm.trans hfn)).symm
      exact ⟨by kernel_rfl, fun j t ht => by
        rw [Tryd.params4] at ht
        have hm : t ∈ [9, 9] := by simpa using Array.mem_of_getElem? ht
        have hall : ([9, 9].all fun u => !Tryd.prog.wantsStandIn u) = true := by kernel_rfl
        exact (show Tryd.prog.wantsStandIn t = false by simpa using List.all_eq_true.1 hall t hm)⟩)
    (by kernel_rfl)
#print axioms card
end Go.Proofs.YtokbjejbgbdkoaaDoor.scriptJoins
