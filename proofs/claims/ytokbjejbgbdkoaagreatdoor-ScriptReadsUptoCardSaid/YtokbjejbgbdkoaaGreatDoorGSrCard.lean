/-
  ScriptReads answers true at any text of the bound, and leaves all as it was; the variables that its row lists are tied to the program's text.
-/
import Derived.Test.YtokbjejbgbdkoaaGreatDoorCards
import Derived.Test.YtokbjejbgbdkoaaGreatDoorTie
import Derived.Test.YtokbjejbgbdkoaaGreatDoorGSrLift
import Derived.Test.YtokbjejbgbdkoaaGreatDoorGSrF0
import Derived.SevenTiedAt
import Derived.JoinedCond
set_option linter.unusedVariables false
set_option linter.unusedSimpArgs false
namespace Go.Proofs.YtokbjejbgbdkoaaGreatDoor.scriptReads
open Go Go.ChangeShapes Go.WideShapes Go.ChangeAt Go.RowKit Go.Sl Go.Evl
theorem inst : Func.isInstance Tryz.prog Tryz.f3 Rows.scriptReadsUptoRow.origin Rows.scriptReadsUptoRow.targs := of_decide_eq_true (by kernel_rfl)
theorem wrap : Func.isWrapper Tryz.prog Tryz.f3 Rows.scriptReadsUptoRow.wrapper Rows.scriptReadsUptoRow.mainSum := by
  unfold Func.isWrapper; first | (rw [if_pos (by decide +kernel)]; kernel_rfl) | (rw [if_neg (by decide +kernel)]; exact ⟨rfl, rfl⟩)
theorem nm : Tryz.prog.funcNamed Rows.scriptReadsUptoRow.func = some 3 := by kernel_rfl
theorem saidUpto : Rows.ScriptReadsUptoSaid :=
  OpenClaim.holds_of_cond 3 Tryz.f3 rfl rfl rfl rfl rfl rfl rfl ⟨rfl, rfl, rfl, rfl, rfl⟩ rfl rfl rfl rfl rfl nm Tryz.func3 joined inst wrap
    (fun os started H enc _ F => by rw [OpenClaim.pre_eq_preRow]; exact lifted os started H enc F)
theorem card : Rows.ScriptReadsUptoCardSaid :=
  Claim7.holds_tied_plain_at .later [] [.data, .data, .data, .data, .sentinel, .sentinel, .pinned] true (true, "1e43fff524304305bed6c3e075b74e97d4a1067a2cc672f6a6626765dc6c022b") true
    saidUpto (fun _ h => by cases h) (by kernel_rfl) (fun _ h => by cases h) scriptReadsUpto_row_tie rfl ⟨rfl, rfl⟩ (by kernel_rfl) rfl
    (fun f fn hf hfn => by
      obtain rfl : f = 3 := (Option.some.inj (nm.symm.trans hf)).symm
      obtain rfl : fn = Tryz.f3 := (Option.some.inj (Tryz.func3.symm.trans hfn)).symm
      exact ⟨by kernel_rfl, fun j t ht => by
        rw [Tryz.params3] at ht
        have hm : t ∈ [9] := by simpa using Array.mem_of_getElem? ht
        have hall : ([9].all fun u => !Tryz.prog.wantsStandIn u) = true := by kernel_rfl
        exact (show Tryz.prog.wantsStandIn t = false by simpa using List.all_eq_true.1 hall t hm)⟩)
    (by kernel_rfl)
#print axioms card
end Go.Proofs.YtokbjejbgbdkoaaGreatDoor.scriptReads
