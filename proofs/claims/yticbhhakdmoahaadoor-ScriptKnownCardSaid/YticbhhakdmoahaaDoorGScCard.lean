/-
  ScriptKnown answers true, and leaves all as it was; the variables that its row lists are tied to the program's text.
-/
import Derived.Test.YticbhhakdmoahaaDoorCards
import Derived.Test.YticbhhakdmoahaaDoorTie
import Derived.Test.YticbhhakdmoahaaDoorGScLift
import Derived.Test.YticbhhakdmoahaaDoorGScF
import Derived.SevenTiedAt
set_option linter.unusedVariables false
set_option linter.unusedSimpArgs false
namespace Go.Proofs.YticbhhakdmoahaaDoor.scriptKnown
open Go Go.ChangeShapes Go.WideShapes Go.ChangeAt Go.RowKit Go.Sl Go.Evl
theorem inst : Func.isInstance Tryd.prog Tryd.f3 Rows.scriptKnownRow.origin Rows.scriptKnownRow.targs := of_decide_eq_true (by kernel_rfl)
theorem wrap : Func.isWrapper Tryd.prog Tryd.f3 Rows.scriptKnownRow.wrapper Rows.scriptKnownRow.mainSum := by
  unfold Func.isWrapper; first | (rw [if_pos (by decide +kernel)]; kernel_rfl) | (rw [if_neg (by decide +kernel)]; exact ⟨rfl, rfl⟩)
theorem nm : Tryd.prog.funcNamed Rows.scriptKnownRow.func = some 3 := by kernel_rfl
theorem row : Rows.ScriptKnownSaid :=
  OpenClaim.holds_of_wide 3 Tryd.f3 rfl rfl rfl rfl rfl rfl rfl ⟨rfl, rfl, rfl, rfl, rfl⟩ rfl rfl rfl rfl rfl nm Tryd.func3 joined inst wrap
    (fun os started H enc _ => lifted os started H enc)
theorem card : Rows.ScriptKnownCardSaid :=
  Claim7.holds_tied_plain_at .later [] [.data, .data, .data, .data, .sentinel, .sentinel, .pinned] true (true, "49d16e8cf524a9b823d269ab7006b05b867a756b95d8bf85e55ead201f04966c") true
    row (fun _ h => by cases h) (by kernel_rfl) (fun _ h => by cases h) scriptKnown_row_tie rfl ⟨rfl, rfl⟩ (by kernel_rfl) rfl
    (fun f fn hf hfn => by
      obtain rfl : f = 3 := (Option.some.inj (nm.symm.trans hf)).symm
      obtain rfl : fn = Tryd.f3 := (Option.some.inj (Tryd.func3.symm.trans hfn)).symm
      exact ⟨by kernel_rfl, fun j t ht => by
        rw [Tryd.params3] at ht
        simp at ht⟩)
    (by kernel_rfl)
#print axioms card
end Go.Proofs.YticbhhakdmoahaaDoor.scriptKnown
