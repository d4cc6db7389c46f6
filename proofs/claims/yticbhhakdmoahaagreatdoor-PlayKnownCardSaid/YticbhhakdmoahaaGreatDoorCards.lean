/-
  DERIVED. GIVEN WITH THE SEED: THE CARDS: each row of YticbhhakdmoahaaGreatDoorRows.lean that lists a variable, with what it lists TIED to the program's text (the seventh form; the later family's looks); each row that meets fmt, with fmt's text TOLD by the authors' own Lean function (tested against real Go, not proved from fmt's source: count such statements apart). THE CARD IS WHAT COUNTS. Prove the row's statement (the work); the ties are given (YticbhhakdmoahaaGreatDoorTie.lean); close each card by the builder's one call (the guide's Derived/Test/ToyasCard.lean, 'card_holds'). Laid BY PROGRAM, IN A SANDBOX (cutbox-door.mjs). By AI agents, Wed Nov 11 2026. No macro, syntax, notation, axiom, sorry.
-/
import Derived.Test.YticbhhakdmoahaaGreatDoorRows
import GoSem.ClaimSeven
namespace Go.Proofs.YticbhhakdmoahaaGreatDoor
namespace Rows

/-- THE TIED CARD OF 'ferrulelaw21.PlayKnown'. -/
def playKnownCard : Claim7 := { stood := { row := playKnownRow, standIns := [], harness := (true, "246405b47cabf3b59a3e5d5695649db559defe464982cec43240384010495c8c"), looks := true }, kinds := [], alts := [], laidByText := true, laidKinds := [.data, .data, .data, .data, .sentinel, .sentinel, .pinned], laidTests := true, laidLooks := .later }
def PlayKnownCardSaid : Prop := Claim7.holds Tryz.pinned (.plain (OpenSpec.ofChange playKnownSpec)) playKnownCard

/-- THE TIED CARD OF 'ferrulelaw22.ShellKnown'. -/
def shellKnownCard : Claim7 := { stood := { row := shellKnownRow, standIns := [], harness := (true, "246405b47cabf3b59a3e5d5695649db559defe464982cec43240384010495c8c"), looks := true }, kinds := [], alts := [], laidByText := true, laidKinds := [.data, .data, .data, .data, .sentinel, .sentinel, .pinned], laidTests := true, laidLooks := .later }
def ShellKnownCardSaid : Prop := Claim7.holds Tryz.pinned (.plain (OpenSpec.ofChange shellKnownSpec)) shellKnownCard

/-- THE SECOND FORM's CARD OF 'ferrulelaw21.PlayKnown'. -/
def playKnownUptoCard : Claim7 := { stood := { row := playKnownUptoRow, standIns := [], harness := (true, "246405b47cabf3b59a3e5d5695649db559defe464982cec43240384010495c8c"), looks := true }, kinds := [], alts := [], laidByText := true, laidKinds := [.data, .data, .data, .data, .sentinel, .sentinel, .pinned], laidTests := true, laidLooks := .later }
def PlayKnownUptoCardSaid : Prop := Claim7.holds Tryz.pinned (.plain (OpenSpec.upto playKnownSpec)) playKnownUptoCard

/-- THE SECOND FORM's CARD OF 'ferrulelaw22.ShellKnown'. -/
def shellKnownUptoCard : Claim7 := { stood := { row := shellKnownUptoRow, standIns := [], harness := (true, "246405b47cabf3b59a3e5d5695649db559defe464982cec43240384010495c8c"), looks := true }, kinds := [], alts := [], laidByText := true, laidKinds := [.data, .data, .data, .data, .sentinel, .sentinel, .pinned], laidTests := true, laidLooks := .later }
def ShellKnownUptoCardSaid : Prop := Claim7.holds Tryz.pinned (.plain (OpenSpec.upto shellKnownSpec)) shellKnownUptoCard
end Rows
end Go.Proofs.YticbhhakdmoahaaGreatDoor
