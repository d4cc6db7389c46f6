/-
  No cell of these rows narrows 'for every input' (looked for: loops, veiled, ifaces, maps, wideKeys, modest, calm, conditions, laid).
  DERIVED. THE GIVEN ROWS OF THIS SEAT. 5 by the template 'for every input the law returns true; each argument reads behind the call as it read before'; 0 by the template 'total and deterministic' (their statements: YticbhhakdmoahaaGreatTotals.lean).
  GIVEN WITH THE SEED: the statements are not yours to turn. If you find one false, say at which input.
  Laid BY PROGRAM, IN A SANDBOX (cutbox-rows.mjs): the forced cells as the released guide's own fill.sh prints them over the translation 40c13304c096cfdd… (all of the seat's roots in one cut). By AI agents, Wed Nov 11 2026. No macro, syntax, notation, axiom, sorry.
-/
import Derived.Test.YticbhhakdmoahaaGreatChecked
import GoSem.Claim
import GoSem.ClaimJoined
import GoSem.ClaimMapViews
import Derived.JoinedTies
import Derived.KernelRfl
namespace Go.Proofs.YticbhhakdmoahaaGreat
/- THE CELL 'sum', in the pinned program and in every row, IS THE sha256 OF THE DUMP (.gsa) THAT YticbhhakdmoahaaGreatProg.lean LOADS. Nothing in Lean hashes anything: it is a label: what it is worth is what the hold of that sum in a sandbox is worth. -/
noncomputable def Tryz.pinned : Pinned := { name := "yticbhhakdmoahaagreat", sum := "40c13304c096cfdd6de271cb7e512ae198c9a9d59cced844dd5ce9a5988e110d", checked := Tryz.checked }
namespace Rows
def none {H : Type} : Left H := { results := [], args := [] }

/-- 'ferrulelaw24.DiskKnown': WHATEVER THE INPUT: true; the input reads as it did. -/
def diskKnownSpec : ChangeSpec := { name := "diskKnown", fn := fun _ => fun
  | [] => { results := [.lit (.bool true)], args := [] }
  | _ => none }
def diskKnownRow : OpenClaim := { program := "yticbhhakdmoahaagreat", sum := "40c13304c096cfdd6de271cb7e512ae198c9a9d59cced844dd5ce9a5988e110d", func := "ferrule/ferrulelaw24.DiskKnown", spec := "diskKnown", inPlace := ["internal/abi.NoEscape", "internal/bytealg.MakeNoZero", "internal/bytealg.Count", "internal/bytealg.IndexByte", "internal/bytealg.Index"], unfollowed := true, recurses := true, named := ["internal/bytealg.MaxLen"], plainKeys := false, apart := false }
def DiskKnownSaid : Prop := diskKnownRow.holds Tryz.pinned (OpenSpec.ofChange diskKnownSpec)

/-- ITS FALSE NEIGHBOUR: 'it returns false'. Refute it at one input. -/
def diskKnownWrong : ChangeSpec := { name := "diskKnown", fn := fun _ => fun
  | [] => { results := [.lit (.bool false)], args := [] }
  | _ => none }
def DiskKnownWrongFalsely : Prop := diskKnownRow.holds Tryz.pinned (OpenSpec.ofChange diskKnownWrong)

/-- 'ferrulelaw27.ScrubKnown': WHATEVER THE INPUT: true; the input reads as it did. -/
def scrubKnownSpec : ChangeSpec := { name := "scrubKnown", fn := fun _ => fun
  | [] => { results := [.lit (.bool true)], args := [] }
  | _ => none }
def scrubKnownRow : OpenClaim := { program := "yticbhhakdmoahaagreat", sum := "40c13304c096cfdd6de271cb7e512ae198c9a9d59cced844dd5ce9a5988e110d", func := "ferrule/ferrulelaw27.ScrubKnown", spec := "scrubKnown", inPlace := ["internal/bytealg.Count", "internal/bytealg.IndexByte", "internal/bytealg.Index"], unfollowed := true, recurses := true, named := ["internal/bytealg.MaxLen"], plainKeys := false, apart := false }
def ScrubKnownSaid : Prop := scrubKnownRow.holds Tryz.pinned (OpenSpec.ofChange scrubKnownSpec)

/-- ITS FALSE NEIGHBOUR: 'it returns false'. Refute it at one input. -/
def scrubKnownWrong : ChangeSpec := { name := "scrubKnown", fn := fun _ => fun
  | [] => { results := [.lit (.bool false)], args := [] }
  | _ => none }
def ScrubKnownWrongFalsely : Prop := scrubKnownRow.holds Tryz.pinned (OpenSpec.ofChange scrubKnownWrong)

/-- 'ferrulelaw18.DevKnown': WHATEVER THE INPUT: true; the input reads as it did. -/
def devKnownSpec : ChangeSpec := { name := "devKnown", fn := fun _ => fun
  | [] => { results := [.lit (.bool true)], args := [] }
  | _ => none }
def devKnownRow : OpenClaim := { program := "yticbhhakdmoahaagreat", sum := "40c13304c096cfdd6de271cb7e512ae198c9a9d59cced844dd5ce9a5988e110d", func := "ferrule/ferrulelaw18.DevKnown", spec := "devKnown", inPlace := ["internal/bytealg.Count", "internal/bytealg.IndexByte", "internal/bytealg.Index"], unfollowed := true, recurses := true, named := ["internal/bytealg.MaxLen"], plainKeys := false, apart := false }
def DevKnownSaid : Prop := devKnownRow.holds Tryz.pinned (OpenSpec.ofChange devKnownSpec)

/-- ITS FALSE NEIGHBOUR: 'it returns false'. Refute it at one input. -/
def devKnownWrong : ChangeSpec := { name := "devKnown", fn := fun _ => fun
  | [] => { results := [.lit (.bool false)], args := [] }
  | _ => none }
def DevKnownWrongFalsely : Prop := devKnownRow.holds Tryz.pinned (OpenSpec.ofChange devKnownWrong)

/-- 'ferrulelaw19.ImageKnown': WHATEVER THE INPUT: true; the input reads as it did. -/
def imageKnownSpec : ChangeSpec := { name := "imageKnown", fn := fun _ => fun
  | [] => { results := [.lit (.bool true)], args := [] }
  | _ => none }
def imageKnownRow : OpenClaim := { program := "yticbhhakdmoahaagreat", sum := "40c13304c096cfdd6de271cb7e512ae198c9a9d59cced844dd5ce9a5988e110d", func := "ferrule/ferrulelaw19.ImageKnown", spec := "imageKnown", inPlace := ["internal/bytealg.Count", "internal/bytealg.IndexByte", "internal/bytealg.Index"], unfollowed := true, recurses := true, named := ["internal/bytealg.MaxLen"], plainKeys := false, apart := false }
def ImageKnownSaid : Prop := imageKnownRow.holds Tryz.pinned (OpenSpec.ofChange imageKnownSpec)

/-- ITS FALSE NEIGHBOUR: 'it returns false'. Refute it at one input. -/
def imageKnownWrong : ChangeSpec := { name := "imageKnown", fn := fun _ => fun
  | [] => { results := [.lit (.bool false)], args := [] }
  | _ => none }
def ImageKnownWrongFalsely : Prop := imageKnownRow.holds Tryz.pinned (OpenSpec.ofChange imageKnownWrong)

/-- 'ferrulelaw23.CrashKnown': WHATEVER THE INPUT: true; the input reads as it did. -/
def crashKnownSpec : ChangeSpec := { name := "crashKnown", fn := fun _ => fun
  | [] => { results := [.lit (.bool true)], args := [] }
  | _ => none }
def crashKnownRow : OpenClaim := { program := "yticbhhakdmoahaagreat", sum := "40c13304c096cfdd6de271cb7e512ae198c9a9d59cced844dd5ce9a5988e110d", func := "ferrule/ferrulelaw23.CrashKnown", spec := "crashKnown", inPlace := ["internal/bytealg.Count", "internal/bytealg.IndexByte", "internal/bytealg.Index", "internal/bytealg.MakeNoZero"], unfollowed := true, recurses := true, named := ["internal/bytealg.MaxLen"], plainKeys := false, apart := false }
def CrashKnownSaid : Prop := crashKnownRow.holds Tryz.pinned (OpenSpec.ofChange crashKnownSpec)

/-- ITS FALSE NEIGHBOUR: 'it returns false'. Refute it at one input. -/
def crashKnownWrong : ChangeSpec := { name := "crashKnown", fn := fun _ => fun
  | [] => { results := [.lit (.bool false)], args := [] }
  | _ => none }
def CrashKnownWrongFalsely : Prop := crashKnownRow.holds Tryz.pinned (OpenSpec.ofChange crashKnownWrong)

/- THE SECOND FORM. 'bulk': how many values and letters a reading holds, each counted each time it is reached (what is shared counts as often as it is met; a slice's spare places count too). A statement '..UptoSaid' is the law's where the arguments, and the package variables that the reading takes, are together of bulk at most 1048576: NARROWER than '..Said'. Prove '..Said' where nothing that the law and all that it calls make is longer than what came in: it says more and counts as full. Else prove '..UptoSaid'. A law counts once. -/
mutual
def uptoBulk {H : Type} : DataW H → Nat
  | .lit (.string bytes) => bytes.length + 1
  | .lit _ => 1
  | .nil => 1
  | .ptr d => uptoBulk d + 1
  | .slice elems spare => uptoBulkAll elems + uptoBulkAll spare + 1
  | .agg parts => uptoBulkAll parts + 1
  | .iface _ d => uptoBulk d + 1
  | .map entries => uptoBulkEntries entries + 1
  | .held _ => 1
def uptoBulkAll {H : Type} : List (DataW H) → Nat
  | [] => 0
  | d :: r => uptoBulk d + uptoBulkAll r
def uptoBulkEntries {H : Type} : List (Lit × DataW H) → Nat
  | [] => 0
  | x :: r => uptoBulkEntry x + uptoBulkEntries r
def uptoBulkEntry {H : Type} : Lit × DataW H → Nat
  | (.string bytes, d) => bytes.length + uptoBulk d + 1
  | (_, d) => uptoBulk d + 1
 end
def uptoSmall : (H : Type) → List (DataW H) → Bool := fun _ ds => decide (uptoBulkAll ds ≤ 1048576)
def OpenSpec.upto (s : _root_.Go.ChangeSpec) : _root_.Go.OpenSpec := { _root_.Go.OpenSpec.ofChange s with cond := some uptoSmall }

/-- 'ferrulelaw24.DiskKnown', WHERE WHAT IT READS IS OF BULK AT MOST 1048576: true; the input reads as it did. -/
def diskKnownUptoRow : OpenClaim := { program := "yticbhhakdmoahaagreat", sum := "40c13304c096cfdd6de271cb7e512ae198c9a9d59cced844dd5ce9a5988e110d", func := "ferrule/ferrulelaw24.DiskKnown", spec := "diskKnown", inPlace := ["internal/abi.NoEscape", "internal/bytealg.MakeNoZero", "internal/bytealg.Count", "internal/bytealg.IndexByte", "internal/bytealg.Index"], unfollowed := true, recurses := true, named := ["internal/bytealg.MaxLen"], plainKeys := false, apart := false, narrowed := true }
def DiskKnownUptoSaid : Prop := diskKnownUptoRow.holds Tryz.pinned (OpenSpec.upto diskKnownSpec)

/-- 'ferrulelaw27.ScrubKnown', WHERE WHAT IT READS IS OF BULK AT MOST 1048576: true; the input reads as it did. -/
def scrubKnownUptoRow : OpenClaim := { program := "yticbhhakdmoahaagreat", sum := "40c13304c096cfdd6de271cb7e512ae198c9a9d59cced844dd5ce9a5988e110d", func := "ferrule/ferrulelaw27.ScrubKnown", spec := "scrubKnown", inPlace := ["internal/bytealg.Count", "internal/bytealg.IndexByte", "internal/bytealg.Index"], unfollowed := true, recurses := true, named := ["internal/bytealg.MaxLen"], plainKeys := false, apart := false, narrowed := true }
def ScrubKnownUptoSaid : Prop := scrubKnownUptoRow.holds Tryz.pinned (OpenSpec.upto scrubKnownSpec)

/-- 'ferrulelaw18.DevKnown', WHERE WHAT IT READS IS OF BULK AT MOST 1048576: true; the input reads as it did. -/
def devKnownUptoRow : OpenClaim := { program := "yticbhhakdmoahaagreat", sum := "40c13304c096cfdd6de271cb7e512ae198c9a9d59cced844dd5ce9a5988e110d", func := "ferrule/ferrulelaw18.DevKnown", spec := "devKnown", inPlace := ["internal/bytealg.Count", "internal/bytealg.IndexByte", "internal/bytealg.Index"], unfollowed := true, recurses := true, named := ["internal/bytealg.MaxLen"], plainKeys := false, apart := false, narrowed := true }
def DevKnownUptoSaid : Prop := devKnownUptoRow.holds Tryz.pinned (OpenSpec.upto devKnownSpec)

/-- 'ferrulelaw19.ImageKnown', WHERE WHAT IT READS IS OF BULK AT MOST 1048576: true; the input reads as it did. -/
def imageKnownUptoRow : OpenClaim := { program := "yticbhhakdmoahaagreat", sum := "40c13304c096cfdd6de271cb7e512ae198c9a9d59cced844dd5ce9a5988e110d", func := "ferrule/ferrulelaw19.ImageKnown", spec := "imageKnown", inPlace := ["internal/bytealg.Count", "internal/bytealg.IndexByte", "internal/bytealg.Index"], unfollowed := true, recurses := true, named := ["internal/bytealg.MaxLen"], plainKeys := false, apart := false, narrowed := true }
def ImageKnownUptoSaid : Prop := imageKnownUptoRow.holds Tryz.pinned (OpenSpec.upto imageKnownSpec)

/-- 'ferrulelaw23.CrashKnown', WHERE WHAT IT READS IS OF BULK AT MOST 1048576: true; the input reads as it did. -/
def crashKnownUptoRow : OpenClaim := { program := "yticbhhakdmoahaagreat", sum := "40c13304c096cfdd6de271cb7e512ae198c9a9d59cced844dd5ce9a5988e110d", func := "ferrule/ferrulelaw23.CrashKnown", spec := "crashKnown", inPlace := ["internal/bytealg.Count", "internal/bytealg.IndexByte", "internal/bytealg.Index", "internal/bytealg.MakeNoZero"], unfollowed := true, recurses := true, named := ["internal/bytealg.MaxLen"], plainKeys := false, apart := false, narrowed := true }
def CrashKnownUptoSaid : Prop := crashKnownUptoRow.holds Tryz.pinned (OpenSpec.upto crashKnownSpec)

end Rows
end Go.Proofs.YticbhhakdmoahaaGreat
