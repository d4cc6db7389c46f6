/-
  PlayKnown answers true, and leaves all as it was; the variables that its row lists are tied to the program's text.
-/
import Derived.Test.YticbhhakdmoahaaGreatDoorCards
import Derived.Test.YticbhhakdmoahaaGreatDoorTie
import Derived.Test.YticbhhakdmoahaaGreatDoorDPlLift
import Derived.Test.YticbhhakdmoahaaGreatDoorDPlF
import Derived.SevenTiedAt
set_option linter.unusedVariables false
set_option linter.unusedSimpArgs false
namespace Go.Proofs.YticbhhakdmoahaaGreatDoor.playKnown
open Go Go.ChangeShapes Go.WideShapes Go.ChangeAt Go.RowKit Go.Sl Go.Evl
theorem inst : Func.isInstance Tryz.prog Tryz.f3 Rows.playKnownRow.origin Rows.playKnownRow.targs := of_decide_eq_true (by kernel_rfl)
theorem wrap : Func.isWrapper Tryz.prog Tryz.f3 Rows.playKnownRow.wrapper Rows.playKnownRow.mainSum := by
  unfold Func.isWrapper; first | (rw [if_pos (by decide +kernel)]; kernel_rfl) | (rw [if_neg (by decide +kernel)]; exact ⟨rfl, rfl⟩)
theorem nm : Tryz.prog.funcNamed Rows.playKnownRow.func = some 3 := by kernel_rfl
theorem row : Rows.PlayKnownSaid :=
  OpenClaim.holds_of_wide 3 Tryz.f3 rfl rfl rfl rfl rfl rfl rfl ⟨rfl, rfl, rfl, rfl, rfl⟩ rfl rfl rfl rfl rfl nm Tryz.func3 joined inst wrap
    (fun os started H enc _ => lifted os started H enc)
theorem card : Rows.PlayKnownCardSaid :=
  Claim7.holds_tied_plain_at .later [] [.data, .data, .data, .data, .sentinel, .sentinel, .pinned] true (true, "246405b47cabf3b59a3e5d5695649db559defe464982cec43240384010495c8c") true
    row (fun _ h => by cases h) (by kernel_rfl) (fun _ h => by cases h) playKnown_row_tie rfl ⟨rfl, rfl⟩ (by kernel_rfl) rfl
    (fun f fn hf hfn => by
      obtain rfl : f = 3 := (Option.some.inj (nm.symm.trans hf)).symm
      obtain rfl : fn = Tryz.f3 := (Option.some.inj (Tryz.func3.symm.trans hfn)).symm
      exact ⟨by kernel_rfl, fun j t ht => by
        rw [Tryz.params3] at ht
        simp at ht⟩)
    (by kernel_rfl)
#print axioms card
end Go.Proofs.YticbhhakdmoahaaGreatDoor.playKnown
