/-
  ShellKnown answers true, and leaves all as it was; the variables that its row lists are tied to the program's text.
-/
import Derived.Test.YticbhhakdmoahaaGreatDoorCards
import Derived.Test.YticbhhakdmoahaaGreatDoorTie
import Derived.Test.YticbhhakdmoahaaGreatDoorDShLift
import Derived.Test.YticbhhakdmoahaaGreatDoorDShF
import Derived.SevenTiedAt
set_option linter.unusedVariables false
set_option linter.unusedSimpArgs false
namespace Go.Proofs.YticbhhakdmoahaaGreatDoor.shellKnown
open Go Go.ChangeShapes Go.WideShapes Go.ChangeAt Go.RowKit Go.Sl Go.Evl
theorem inst : Func.isInstance Tryz.prog Tryz.f4 Rows.shellKnownRow.origin Rows.shellKnownRow.targs := of_decide_eq_true (by kernel_rfl)
theorem wrap : Func.isWrapper Tryz.prog Tryz.f4 Rows.shellKnownRow.wrapper Rows.shellKnownRow.mainSum := by
  unfold Func.isWrapper; first | (rw [if_pos (by decide +kernel)]; kernel_rfl) | (rw [if_neg (by decide +kernel)]; exact ⟨rfl, rfl⟩)
theorem nm : Tryz.prog.funcNamed Rows.shellKnownRow.func = some 4 := by kernel_rfl
theorem row : Rows.ShellKnownSaid :=
  OpenClaim.holds_of_wide 4 Tryz.f4 rfl rfl rfl rfl rfl rfl rfl ⟨rfl, rfl, rfl, rfl, rfl⟩ rfl rfl rfl rfl rfl nm Tryz.func4 joined inst wrap
    (fun os started H enc _ => lifted os started H enc)
theorem card : Rows.ShellKnownCardSaid :=
  Claim7.holds_tied_plain_at .later [] [.data, .data, .data, .data, .sentinel, .sentinel, .pinned] true (true, "246405b47cabf3b59a3e5d5695649db559defe464982cec43240384010495c8c") true
    row (fun _ h => by cases h) (by kernel_rfl) (fun _ h => by cases h) shellKnown_row_tie rfl ⟨rfl, rfl⟩ (by kernel_rfl) rfl
    (fun f fn hf hfn => by
      obtain rfl : f = 4 := (Option.some.inj (nm.symm.trans hf)).symm
      obtain rfl : fn = Tryz.f4 := (Option.some.inj (Tryz.func4.symm.trans hfn)).symm
      exact ⟨by kernel_rfl, fun j t ht => by
        rw [Tryz.params4] at ht
        simp at ht⟩)
    (by kernel_rfl)
#print axioms card
end Go.Proofs.YticbhhakdmoahaaGreatDoor.shellKnown
