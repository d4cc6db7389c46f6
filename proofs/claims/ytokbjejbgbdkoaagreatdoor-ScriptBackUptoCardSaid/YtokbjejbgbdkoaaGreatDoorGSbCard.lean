/-
  ScriptBack answers true at any commands and gap of the bound, and leaves all as it was; the variables that its row lists are tied to the program's text.
-/
import Derived.Test.YtokbjejbgbdkoaaGreatDoorCards
import Derived.Test.YtokbjejbgbdkoaaGreatDoorTie
import Derived.Test.YtokbjejbgbdkoaaGreatDoorGSbLift
import Derived.Test.YtokbjejbgbdkoaaGreatDoorGSbF0
import Derived.SevenTiedAt
import Derived.JoinedCond
set_option linter.unusedVariables false
set_option linter.unusedSimpArgs false
namespace Go.Proofs.YtokbjejbgbdkoaaGreatDoor.scriptBack
open Go Go.ChangeShapes Go.WideShapes Go.ChangeAt Go.RowKit Go.Sl Go.Evl
theorem inst : Func.isInstance Tryz.prog Tryz.f4 Rows.scriptBackUptoRow.origin Rows.scriptBackUptoRow.targs := of_decide_eq_true (by kernel_rfl)
theorem wrap : Func.isWrapper Tryz.prog Tryz.f4 Rows.scriptBackUptoRow.wrapper Rows.scriptBackUptoRow.mainSum := by
  unfold Func.isWrapper; first | (rw [if_pos (by decide +kernel)]; kernel_rfl) | (rw [if_neg (by decide +kernel)]; exact ⟨rfl, rfl⟩)
theorem nm : Tryz.prog.funcNamed Rows.scriptBackUptoRow.func = some 4 := by kernel_rfl
theorem saidUpto : Rows.ScriptBackUptoSaid :=
  OpenClaim.holds_of_cond 4 Tryz.f4 rfl rfl rfl rfl rfl rfl rfl ⟨rfl, rfl, rfl, rfl, rfl⟩ rfl rfl rfl rfl rfl nm Tryz.func4 joined inst wrap
    (fun os started H enc _ F => by rw [OpenClaim.pre_eq_preRow]; exact lifted os started H enc F)
theorem card : Rows.ScriptBackUptoCardSaid :=
  Claim7.holds_tied_plain_at .later [] [.data, .data, .data, .data, .sentinel, .sentinel, .pinned] true (true, "1e43fff524304305bed6c3e075b74e97d4a1067a2cc672f6a6626765dc6c022b") true
    saidUpto (fun _ h => by cases h) (by kernel_rfl) (fun _ h => by cases h) scriptBackUpto_row_tie rfl ⟨rfl, rfl⟩ (by kernel_rfl) rfl
    (fun f fn hf hfn => by
      obtain rfl : f = 4 := (Option.some.inj (nm.symm.trans hf)).symm
      obtain rfl : fn = Tryz.f4 := (Option.some.inj (Tryz.func4.symm.trans hfn)).symm
      exact ⟨by kernel_rfl, fun j t ht => by
        rw [Tryz.params4] at ht
        have hm : t ∈ [39, 9] := by simpa using Array.mem_of_getElem? ht
        have hall : ([39, 9].all fun u => !Tryz.prog.wantsStandIn u) = true := by kernel_rfl
        exact (show Tryz.prog.wantsStandIn t = false by simpa using List.all_eq_true.1 hall t hm)⟩)
    (by kernel_rfl)
#print axioms card
end Go.Proofs.YtokbjejbgbdkoaaGreatDoor.scriptBack
