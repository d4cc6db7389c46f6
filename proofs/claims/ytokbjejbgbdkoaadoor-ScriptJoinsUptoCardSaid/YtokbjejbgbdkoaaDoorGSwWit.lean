/-
  A world in which the listed variables are laid. It proves nothing of the program by itself.
-/
import Derived.Test.YtokbjejbgbdkoaaDoorRows
import Derived.Test.YtokbjejbgbdkoaaDoorGSwTab
import Derived.ChangeSame
import Derived.ChangeVars
import Derived.JoinedOf
import Derived.RowKit
import Derived.RowKitTokens
import Derived.LaidLaws
import Derived.LaidHandle
import Derived.Deep.DeepLaidRun
import Derived.KernelRfl
set_option linter.unusedVariables false
set_option linter.unusedSimpArgs false
namespace Go.Proofs.YtokbjejbgbdkoaaDoor.scriptWords
open Go Go.ChangeShapes Go.WideShapes Go.RowKit
def flat0 : DataW Unit → List Value
  | .lit (.int k n) => [.int k n]
  | _ => []
def flat1 : DataW Unit → List Value
  | .agg ds => ds.flatMap flat0
  | d => flat0 d
def flat : DataW Unit → List Value
  | .agg ds => ds.flatMap flat1
  | d => flat0 d
noncomputable def setG (h : Array Obj) (g : Nat) (cs : List Value) : Array Obj := h.modify g fun
  | .cells _ t frozen => .cells cs.toArray t frozen
  | o => o
noncomputable def low : Nat := (World.holding Tryd.prog default ⟨#[], #[], []⟩).heap.size
def rangeS : ByteArray := ⟨#[118, 97, 108, 117, 101, 32, 111, 117, 116, 32, 111, 102, 32, 114, 97, 110, 103, 101]⟩
def syntaxS : ByteArray := ⟨#[105, 110, 118, 97, 108, 105, 100, 32, 115, 121, 110, 116, 97, 120]⟩
/-- A world that meets the condition: the settled one, the listed variables laid. -/
noncomputable def laidWorld (os : Os) : World :=
  let w0 := World.holding Tryd.prog os ⟨#[.cells #[.string rangeS] 124, .cells #[.string syntaxS] 124], #[], []⟩
  { w0 with heap := setG (setG (setG (setG (setG (setG (setG w0.heap 6 (flat Rows.laid_math_bits_deBruijn32tab)) 7 (flat Rows.laid_math_bits_deBruijn64tab)) 5 (flat Rows.laid_internal_strconv_uint64pow10)) 2 (flat Rows.laid_unicode_utf8_acceptRanges)) 1 (flat Rows.laid_unicode_utf8_first)) 4 [.iface 122 (.pointer (some ⟨low, 0, none⟩))]) 3 [.iface 122 (.pointer (some ⟨low + 1, 0, none⟩))] }
theorem laidWorld_met (os : Os) (args : Array Value) : laidMetH Tryd.prog lay0 ((laidWorld os).forCall (fun _ _ => 0) ⟨#[], args, []⟩).memory :=
  laidMetH_of_parts (laidMet_of_run3 40 (by kernel_rfl) (by kernel_rfl) (by kernel_rfl)) (by kernel_rfl)
end Go.Proofs.YtokbjejbgbdkoaaDoor.scriptWords
