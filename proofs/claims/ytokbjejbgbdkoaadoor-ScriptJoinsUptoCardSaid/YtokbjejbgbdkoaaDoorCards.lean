/-
  DERIVED. GIVEN WITH THE SEED: THE CARDS: each row of YtokbjejbgbdkoaaDoorRows.lean that lists a variable, with what it lists TIED to the program's text (the seventh form; the later family's looks); each row that meets fmt, with fmt's text TOLD by the authors' own Lean function (tested against real Go, not proved from fmt's source: count such statements apart). THE CARD IS WHAT COUNTS. Prove the row's statement (the work); the ties are given (YtokbjejbgbdkoaaDoorTie.lean); close each card by the builder's one call (the guide's Derived/Test/ToyasCard.lean, 'card_holds'). Laid BY PROGRAM, IN A SANDBOX (cutbox-door.mjs). By AI agents, Wed Nov 11 2026. No macro, syntax, notation, axiom, sorry.
-/
import Derived.Test.YtokbjejbgbdkoaaDoorRows
import GoSem.ClaimSeven
namespace Go.Proofs.YtokbjejbgbdkoaaDoor
namespace Rows

/-- THE TIED CARD OF 'ferrulelaw20.ScriptWords'. -/
def scriptWordsCard : Claim7 := { stood := { row := scriptWordsRow, standIns := [], harness := (true, "2697a3608537022d37e29cf8864d57c57d696ae0f89e24776626e1337ea91035"), looks := true }, kinds := [], alts := [], laidByText := true, laidKinds := [.data, .data, .data, .data, .sentinel, .sentinel, .pinned], laidTests := true, laidLooks := .later }
def ScriptWordsCardSaid : Prop := Claim7.holds Tryd.pinned (.plain (OpenSpec.ofChange scriptWordsSpec)) scriptWordsCard

/-- THE TIED CARD OF 'ferrulelaw20.ScriptJoins'. -/
def scriptJoinsCard : Claim7 := { stood := { row := scriptJoinsRow, standIns := [], harness := (true, "2697a3608537022d37e29cf8864d57c57d696ae0f89e24776626e1337ea91035"), looks := true }, kinds := [], alts := [], laidByText := true, laidKinds := [.data, .data, .data, .data, .sentinel, .sentinel, .pinned], laidTests := true, laidLooks := .later }
def ScriptJoinsCardSaid : Prop := Claim7.holds Tryd.pinned (.plain (OpenSpec.ofChange scriptJoinsSpec)) scriptJoinsCard

/-- THE SECOND FORM's CARD OF 'ferrulelaw20.ScriptWords'. -/
def scriptWordsUptoCard : Claim7 := { stood := { row := scriptWordsUptoRow, standIns := [], harness := (true, "2697a3608537022d37e29cf8864d57c57d696ae0f89e24776626e1337ea91035"), looks := true }, kinds := [], alts := [], laidByText := true, laidKinds := [.data, .data, .data, .data, .sentinel, .sentinel, .pinned], laidTests := true, laidLooks := .later }
def ScriptWordsUptoCardSaid : Prop := Claim7.holds Tryd.pinned (.plain (OpenSpec.upto scriptWordsSpec)) scriptWordsUptoCard

/-- THE SECOND FORM's CARD OF 'ferrulelaw20.ScriptJoins'. -/
def scriptJoinsUptoCard : Claim7 := { stood := { row := scriptJoinsUptoRow, standIns := [], harness := (true, "2697a3608537022d37e29cf8864d57c57d696ae0f89e24776626e1337ea91035"), looks := true }, kinds := [], alts := [], laidByText := true, laidKinds := [.data, .data, .data, .data, .sentinel, .sentinel, .pinned], laidTests := true, laidLooks := .later }
def ScriptJoinsUptoCardSaid : Prop := Claim7.holds Tryd.pinned (.plain (OpenSpec.upto scriptJoinsSpec)) scriptJoinsUptoCard
end Rows
end Go.Proofs.YtokbjejbgbdkoaaDoor
