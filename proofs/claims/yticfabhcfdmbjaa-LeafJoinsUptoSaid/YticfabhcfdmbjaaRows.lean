/-
  No cell of these rows narrows 'for every input' (looked for: loops, veiled, ifaces, maps, wideKeys, modest, calm, conditions, laid).
  DERIVED. THE GIVEN ROWS OF THIS SEAT. 8 by the template 'for every input the law returns true; each argument reads behind the call as it read before'; 0 by the template 'total and deterministic' (their statements: YticfabhcfdmbjaaTotals.lean).
  GIVEN WITH THE SEED: the statements are not yours to turn. If you find one false, say at which input.
  Laid BY PROGRAM, IN A SANDBOX (cutbox-rows.mjs): the forced cells as the released guide's own fill.sh prints them over the translation 74372e55faaefd80… (all of the seat's roots in one cut). By AI agents, Wed Nov 11 2026. No macro, syntax, notation, axiom, sorry.
-/
import Derived.Test.YticfabhcfdmbjaaChecked
import GoSem.Claim
import GoSem.ClaimJoined
import GoSem.ClaimMapViews
import Derived.JoinedTies
import Derived.KernelRfl
namespace Go.Proofs.Yticfabhcfdmbjaa
/- THE CELL 'sum', in the pinned program and in every row, IS THE sha256 OF THE DUMP (.gsa) THAT YticfabhcfdmbjaaProg.lean LOADS. Nothing in Lean hashes anything: it is a label: what it is worth is what the hold of that sum in a sandbox is worth. -/
noncomputable def Try.pinned : Pinned := { name := "yticfabhcfdmbjaa", sum := "74372e55faaefd80cb0353e93705f10e7cd7bd4a3f8a2195439f35312204c0ff", checked := Try.checked }
namespace Rows
def none {H : Type} : Left H := { results := [], args := [] }

/-- 'ferrulelaw17.ModelKnown': WHATEVER THE INPUT: true; the input reads as it did. -/
def modelKnownSpec : ChangeSpec := { name := "modelKnown", fn := fun _ => fun
  | [] => { results := [.lit (.bool true)], args := [] }
  | _ => none }
def modelKnownRow : OpenClaim := { program := "yticfabhcfdmbjaa", sum := "74372e55faaefd80cb0353e93705f10e7cd7bd4a3f8a2195439f35312204c0ff", func := "ferrule/ferrulelaw17.ModelKnown", spec := "modelKnown", inPlace := ["internal/bytealg.MakeNoZero"], plainKeys := false, apart := false }
def ModelKnownSaid : Prop := modelKnownRow.holds Try.pinned (OpenSpec.ofChange modelKnownSpec)

/-- ITS FALSE NEIGHBOUR: 'it returns false'. Refute it at one input. -/
def modelKnownWrong : ChangeSpec := { name := "modelKnown", fn := fun _ => fun
  | [] => { results := [.lit (.bool false)], args := [] }
  | _ => none }
def ModelKnownWrongFalsely : Prop := modelKnownRow.holds Try.pinned (OpenSpec.ofChange modelKnownWrong)

/-- 'ferrulelaw17.ModelPlays': WHATEVER THE INPUT: true; the input reads as it did. -/
def modelPlaysSpec : ChangeSpec := { name := "modelPlays", fn := fun _ => fun
  | [d1, d2, d3] => { results := [.lit (.bool true)], args := [d1, d2, d3] }
  | _ => none }
def modelPlaysRow : OpenClaim := { program := "yticfabhcfdmbjaa", sum := "74372e55faaefd80cb0353e93705f10e7cd7bd4a3f8a2195439f35312204c0ff", func := "ferrule/ferrulelaw17.ModelPlays", spec := "modelPlays", inPlace := ["internal/bytealg.MakeNoZero"], plainKeys := false, apart := false }
def ModelPlaysSaid : Prop := modelPlaysRow.holds Try.pinned (OpenSpec.ofChange modelPlaysSpec)

/-- ITS FALSE NEIGHBOUR: 'it returns false'. Refute it at one input. -/
def modelPlaysWrong : ChangeSpec := { name := "modelPlays", fn := fun _ => fun
  | [d1, d2, d3] => { results := [.lit (.bool false)], args := [d1, d2, d3] }
  | _ => none }
def ModelPlaysWrongFalsely : Prop := modelPlaysRow.holds Try.pinned (OpenSpec.ofChange modelPlaysWrong)

/-- 'ferrulelaw17.ModelApart': WHATEVER THE INPUT: true; the input reads as it did. -/
def modelApartSpec : ChangeSpec := { name := "modelApart", fn := fun _ => fun
  | [d1, d2, d3] => { results := [.lit (.bool true)], args := [d1, d2, d3] }
  | _ => none }
def modelApartRow : OpenClaim := { program := "yticfabhcfdmbjaa", sum := "74372e55faaefd80cb0353e93705f10e7cd7bd4a3f8a2195439f35312204c0ff", func := "ferrule/ferrulelaw17.ModelApart", spec := "modelApart", inPlace := ["internal/bytealg.MakeNoZero"], plainKeys := false, apart := false }
def ModelApartSaid : Prop := modelApartRow.holds Try.pinned (OpenSpec.ofChange modelApartSpec)

/-- ITS FALSE NEIGHBOUR: 'it returns false'. Refute it at one input. -/
def modelApartWrong : ChangeSpec := { name := "modelApart", fn := fun _ => fun
  | [d1, d2, d3] => { results := [.lit (.bool false)], args := [d1, d2, d3] }
  | _ => none }
def ModelApartWrongFalsely : Prop := modelApartRow.holds Try.pinned (OpenSpec.ofChange modelApartWrong)

/-- 'ferrulelaw12.LeafKnown': WHATEVER THE INPUT: true; the input reads as it did. -/
def leafKnownSpec : ChangeSpec := { name := "leafKnown", fn := fun _ => fun
  | [] => { results := [.lit (.bool true)], args := [] }
  | _ => none }
def leafKnownRow : OpenClaim := { program := "yticfabhcfdmbjaa", sum := "74372e55faaefd80cb0353e93705f10e7cd7bd4a3f8a2195439f35312204c0ff", func := "ferrule/ferrulelaw12.LeafKnown", spec := "leafKnown", unfollowed := true, recurses := true, plainKeys := false, apart := false }
def LeafKnownSaid : Prop := leafKnownRow.holds Try.pinned (OpenSpec.ofChange leafKnownSpec)

/-- ITS FALSE NEIGHBOUR: 'it returns false'. Refute it at one input. -/
def leafKnownWrong : ChangeSpec := { name := "leafKnown", fn := fun _ => fun
  | [] => { results := [.lit (.bool false)], args := [] }
  | _ => none }
def LeafKnownWrongFalsely : Prop := leafKnownRow.holds Try.pinned (OpenSpec.ofChange leafKnownWrong)

/-- 'ferrulelaw12.LeafCuts': WHATEVER THE INPUT: true; the input reads as it did. -/
def leafCutsSpec : ChangeSpec := { name := "leafCuts", fn := fun _ => fun
  | [d1, d2, d3, d4, d5] => { results := [.lit (.bool true)], args := [d1, d2, d3, d4, d5] }
  | _ => none }
def leafCutsRow : OpenClaim := { program := "yticfabhcfdmbjaa", sum := "74372e55faaefd80cb0353e93705f10e7cd7bd4a3f8a2195439f35312204c0ff", func := "ferrule/ferrulelaw12.LeafCuts", spec := "leafCuts", unfollowed := true, recurses := true, plainKeys := false, apart := false }
def LeafCutsSaid : Prop := leafCutsRow.holds Try.pinned (OpenSpec.ofChange leafCutsSpec)

/-- ITS FALSE NEIGHBOUR: 'it returns false'. Refute it at one input. -/
def leafCutsWrong : ChangeSpec := { name := "leafCuts", fn := fun _ => fun
  | [d1, d2, d3, d4, d5] => { results := [.lit (.bool false)], args := [d1, d2, d3, d4, d5] }
  | _ => none }
def LeafCutsWrongFalsely : Prop := leafCutsRow.holds Try.pinned (OpenSpec.ofChange leafCutsWrong)

/-- 'ferrulelaw12.LeafJoins': WHATEVER THE INPUT: true; the input reads as it did. -/
def leafJoinsSpec : ChangeSpec := { name := "leafJoins", fn := fun _ => fun
  | [d1, d2] => { results := [.lit (.bool true)], args := [d1, d2] }
  | _ => none }
def leafJoinsRow : OpenClaim := { program := "yticfabhcfdmbjaa", sum := "74372e55faaefd80cb0353e93705f10e7cd7bd4a3f8a2195439f35312204c0ff", func := "ferrule/ferrulelaw12.LeafJoins", spec := "leafJoins", unfollowed := true, recurses := true, plainKeys := false, apart := false }
def LeafJoinsSaid : Prop := leafJoinsRow.holds Try.pinned (OpenSpec.ofChange leafJoinsSpec)

/-- ITS FALSE NEIGHBOUR: 'it returns false'. Refute it at one input. -/
def leafJoinsWrong : ChangeSpec := { name := "leafJoins", fn := fun _ => fun
  | [d1, d2] => { results := [.lit (.bool false)], args := [d1, d2] }
  | _ => none }
def LeafJoinsWrongFalsely : Prop := leafJoinsRow.holds Try.pinned (OpenSpec.ofChange leafJoinsWrong)

/-- 'ferrulelaw12.LeafWhole': WHATEVER THE INPUT: true; the input reads as it did. -/
def leafWholeSpec : ChangeSpec := { name := "leafWhole", fn := fun _ => fun
  | [d1, d2, d3, d4] => { results := [.lit (.bool true)], args := [d1, d2, d3, d4] }
  | _ => none }
def leafWholeRow : OpenClaim := { program := "yticfabhcfdmbjaa", sum := "74372e55faaefd80cb0353e93705f10e7cd7bd4a3f8a2195439f35312204c0ff", func := "ferrule/ferrulelaw12.LeafWhole", spec := "leafWhole", unfollowed := true, recurses := true, plainKeys := false, apart := false }
def LeafWholeSaid : Prop := leafWholeRow.holds Try.pinned (OpenSpec.ofChange leafWholeSpec)

/-- ITS FALSE NEIGHBOUR: 'it returns false'. Refute it at one input. -/
def leafWholeWrong : ChangeSpec := { name := "leafWhole", fn := fun _ => fun
  | [d1, d2, d3, d4] => { results := [.lit (.bool false)], args := [d1, d2, d3, d4] }
  | _ => none }
def LeafWholeWrongFalsely : Prop := leafWholeRow.holds Try.pinned (OpenSpec.ofChange leafWholeWrong)

/-- 'ferrulelaw12.LeafMixed': WHATEVER THE INPUT: true; the input reads as it did. -/
def leafMixedSpec : ChangeSpec := { name := "leafMixed", fn := fun _ => fun
  | [d1, d2, d3] => { results := [.lit (.bool true)], args := [d1, d2, d3] }
  | _ => none }
def leafMixedRow : OpenClaim := { program := "yticfabhcfdmbjaa", sum := "74372e55faaefd80cb0353e93705f10e7cd7bd4a3f8a2195439f35312204c0ff", func := "ferrule/ferrulelaw12.LeafMixed", spec := "leafMixed", unfollowed := true, recurses := true, plainKeys := false, apart := false }
def LeafMixedSaid : Prop := leafMixedRow.holds Try.pinned (OpenSpec.ofChange leafMixedSpec)

/-- ITS FALSE NEIGHBOUR: 'it returns false'. Refute it at one input. -/
def leafMixedWrong : ChangeSpec := { name := "leafMixed", fn := fun _ => fun
  | [d1, d2, d3] => { results := [.lit (.bool false)], args := [d1, d2, d3] }
  | _ => none }
def LeafMixedWrongFalsely : Prop := leafMixedRow.holds Try.pinned (OpenSpec.ofChange leafMixedWrong)

/- THE SECOND FORM. 'bulk': how many values and letters a reading holds, each counted each time it is reached (what is shared counts as often as it is met; a slice's spare places count too). A statement '..UptoSaid' is the law's where the arguments, and the package variables that the reading takes, are together of bulk at most 1048576: NARROWER than '..Said'. Prove '..Said' where nothing that the law and all that it calls make is longer than what came in: it says more and counts as full. Else prove '..UptoSaid'. A law counts once. -/
mutual
def uptoBulk {H : Type} : DataW H → Nat
  | .lit (.string bytes) => bytes.length + 1
  | .lit _ => 1
  | .nil => 1
  | .ptr d => uptoBulk d + 1
  | .slice elems spare => uptoBulkAll elems + uptoBulkAll spare + 1
  | .agg parts => uptoBulkAll parts + 1
  | .iface _ d => uptoBulk d + 1
  | .map entries => uptoBulkEntries entries + 1
  | .held _ => 1
def uptoBulkAll {H : Type} : List (DataW H) → Nat
  | [] => 0
  | d :: r => uptoBulk d + uptoBulkAll r
def uptoBulkEntries {H : Type} : List (Lit × DataW H) → Nat
  | [] => 0
  | x :: r => uptoBulkEntry x + uptoBulkEntries r
def uptoBulkEntry {H : Type} : Lit × DataW H → Nat
  | (.string bytes, d) => bytes.length + uptoBulk d + 1
  | (_, d) => uptoBulk d + 1
 end
def uptoSmall : (H : Type) → List (DataW H) → Bool := fun _ ds => decide (uptoBulkAll ds ≤ 1048576)
def OpenSpec.upto (s : _root_.Go.ChangeSpec) : _root_.Go.OpenSpec := { _root_.Go.OpenSpec.ofChange s with cond := some uptoSmall }

/-- 'ferrulelaw17.ModelKnown', WHERE WHAT IT READS IS OF BULK AT MOST 1048576: true; the input reads as it did. -/
def modelKnownUptoRow : OpenClaim := { program := "yticfabhcfdmbjaa", sum := "74372e55faaefd80cb0353e93705f10e7cd7bd4a3f8a2195439f35312204c0ff", func := "ferrule/ferrulelaw17.ModelKnown", spec := "modelKnown", inPlace := ["internal/bytealg.MakeNoZero"], plainKeys := false, apart := false, narrowed := true }
def ModelKnownUptoSaid : Prop := modelKnownUptoRow.holds Try.pinned (OpenSpec.upto modelKnownSpec)

/-- 'ferrulelaw17.ModelPlays', WHERE WHAT IT READS IS OF BULK AT MOST 1048576: true; the input reads as it did. -/
def modelPlaysUptoRow : OpenClaim := { program := "yticfabhcfdmbjaa", sum := "74372e55faaefd80cb0353e93705f10e7cd7bd4a3f8a2195439f35312204c0ff", func := "ferrule/ferrulelaw17.ModelPlays", spec := "modelPlays", inPlace := ["internal/bytealg.MakeNoZero"], plainKeys := false, apart := false, narrowed := true }
def ModelPlaysUptoSaid : Prop := modelPlaysUptoRow.holds Try.pinned (OpenSpec.upto modelPlaysSpec)

/-- 'ferrulelaw17.ModelApart', WHERE WHAT IT READS IS OF BULK AT MOST 1048576: true; the input reads as it did. -/
def modelApartUptoRow : OpenClaim := { program := "yticfabhcfdmbjaa", sum := "74372e55faaefd80cb0353e93705f10e7cd7bd4a3f8a2195439f35312204c0ff", func := "ferrule/ferrulelaw17.ModelApart", spec := "modelApart", inPlace := ["internal/bytealg.MakeNoZero"], plainKeys := false, apart := false, narrowed := true }
def ModelApartUptoSaid : Prop := modelApartUptoRow.holds Try.pinned (OpenSpec.upto modelApartSpec)

/-- 'ferrulelaw12.LeafKnown', WHERE WHAT IT READS IS OF BULK AT MOST 1048576: true; the input reads as it did. -/
def leafKnownUptoRow : OpenClaim := { program := "yticfabhcfdmbjaa", sum := "74372e55faaefd80cb0353e93705f10e7cd7bd4a3f8a2195439f35312204c0ff", func := "ferrule/ferrulelaw12.LeafKnown", spec := "leafKnown", unfollowed := true, recurses := true, plainKeys := false, apart := false, narrowed := true }
def LeafKnownUptoSaid : Prop := leafKnownUptoRow.holds Try.pinned (OpenSpec.upto leafKnownSpec)

/-- 'ferrulelaw12.LeafCuts', WHERE WHAT IT READS IS OF BULK AT MOST 1048576: true; the input reads as it did. -/
def leafCutsUptoRow : OpenClaim := { program := "yticfabhcfdmbjaa", sum := "74372e55faaefd80cb0353e93705f10e7cd7bd4a3f8a2195439f35312204c0ff", func := "ferrule/ferrulelaw12.LeafCuts", spec := "leafCuts", unfollowed := true, recurses := true, plainKeys := false, apart := false, narrowed := true }
def LeafCutsUptoSaid : Prop := leafCutsUptoRow.holds Try.pinned (OpenSpec.upto leafCutsSpec)

/-- 'ferrulelaw12.LeafJoins', WHERE WHAT IT READS IS OF BULK AT MOST 1048576: true; the input reads as it did. -/
def leafJoinsUptoRow : OpenClaim := { program := "yticfabhcfdmbjaa", sum := "74372e55faaefd80cb0353e93705f10e7cd7bd4a3f8a2195439f35312204c0ff", func := "ferrule/ferrulelaw12.LeafJoins", spec := "leafJoins", unfollowed := true, recurses := true, plainKeys := false, apart := false, narrowed := true }
def LeafJoinsUptoSaid : Prop := leafJoinsUptoRow.holds Try.pinned (OpenSpec.upto leafJoinsSpec)

/-- 'ferrulelaw12.LeafWhole', WHERE WHAT IT READS IS OF BULK AT MOST 1048576: true; the input reads as it did. -/
def leafWholeUptoRow : OpenClaim := { program := "yticfabhcfdmbjaa", sum := "74372e55faaefd80cb0353e93705f10e7cd7bd4a3f8a2195439f35312204c0ff", func := "ferrule/ferrulelaw12.LeafWhole", spec := "leafWhole", unfollowed := true, recurses := true, plainKeys := false, apart := false, narrowed := true }
def LeafWholeUptoSaid : Prop := leafWholeUptoRow.holds Try.pinned (OpenSpec.upto leafWholeSpec)

/-- 'ferrulelaw12.LeafMixed', WHERE WHAT IT READS IS OF BULK AT MOST 1048576: true; the input reads as it did. -/
def leafMixedUptoRow : OpenClaim := { program := "yticfabhcfdmbjaa", sum := "74372e55faaefd80cb0353e93705f10e7cd7bd4a3f8a2195439f35312204c0ff", func := "ferrule/ferrulelaw12.LeafMixed", spec := "leafMixed", unfollowed := true, recurses := true, plainKeys := false, apart := false, narrowed := true }
def LeafMixedUptoSaid : Prop := leafMixedUptoRow.holds Try.pinned (OpenSpec.upto leafMixedSpec)

end Rows
end Go.Proofs.Yticfabhcfdmbjaa
