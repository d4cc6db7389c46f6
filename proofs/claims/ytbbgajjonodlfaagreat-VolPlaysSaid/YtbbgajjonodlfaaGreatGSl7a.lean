/-
  append: its runs. It proves nothing of the program by itself.
-/
import Derived.Test.YtbbgajjonodlfaaGreatGSl6
import Derived.Laws.Append
set_option linter.unusedVariables false
set_option linter.unusedSimpArgs false
namespace Go.Sl
open Go
section more
variable {P : Program}
set_option maxHeartbeats 8000000 in
theorem run_append_new {w : World} {t t' ty el : TypeId} {d : TypeDesc} {inf : TypeInfo} {zv vx : Value} {base : Option Addr} {n c m : Nat} {old new : Array Value}
    (ht : P.underlying t = some (.slice el)) (hd : P.underlying t' = some d) (hdi : ∀ k, d ≠ .int k) (hi : P.info? el = some inf) (hz : inf.zero = some zv) (hlen : (Builtin.lenOf vx).run P w = .ok m w)
    (hg : ¬ (n + m ≤ c)) (h63 : n + m ≤ 9223372036854775807) (h48 : Builtin.nextslicecap (n + m) c * inf.bytes ≤ 281474976710656)
    (hold : (Builtin.firstCells inf.size n (.slice base n c)).run P w.drew = .ok old w.drew) (hnew : (Builtin.firstCells inf.size m vx).run P w.drew = .ok new w.drew) :
    (Builtin.append_ #[t, t'] ty #[.slice base n c, vx]).run P w =
      .ok (.slice (some ⟨w.heap.size, 0, none⟩) (n + m) (grownCap w (n + m) c el)) (w.drew.alloc (.cells (old ++ new ++ Builtin.zeroCells zv.cells (grownCap w (n + m) c el - (n + m))) el)) := by
  have h63' : ¬ (9223372036854775807 < ((n : Int) + (m : Int))) := by omega
  have h48' : ¬ (281474976710656 < Builtin.nextslicecap (n + m) c * inf.bytes) := by omega
  cases d with
  | int k => exact absurd rfl (hdi k)
  | _ => simp [Builtin.append_, run_underlying' ht, run_underlying' hd, sizeOf, typeInfo, zeroValue, hi, hz, hlen, hg, h63', h48', Question.forced, hold, hnew, newRow, grownCap]
set_option maxHeartbeats 8000000 in
theorem run_append_room' {w w' : World} {t t' ty el : TypeId} {d : TypeDesc} {inf : TypeInfo} {vx : Value} {b n c m : Nat} {new : Array Value}
    (ht : P.underlying t = some (.slice el)) (hd : P.underlying t' = some d) (hdi : ∀ k, d ≠ .int k) (hi : P.info? el = some inf) (hlen : (Builtin.lenOf vx).run P w = .ok m w)
    (hg : n + m ≤ c) (hnew : (Builtin.firstCells inf.size m vx).run P w = .ok new w) (hst : (storeCells ⟨b, n * inf.size, none⟩ new.toList).run P w = .ok () w') :
    (Builtin.append_ #[t, t'] ty #[slc b 0 n c, vx]).run P w = .ok (slc b 0 (n + m) c) w' := by
  have ha : Addr.add ⟨b, 0, none⟩ (n * inf.size) = ⟨b, n * inf.size, none⟩ := by rw [addr_add, Nat.zero_add]
  cases d with
  | int k => exact absurd rfl (hdi k)
  | _ => simp [Builtin.append_, run_underlying' ht, run_underlying' hd, sizeOf, typeInfo, hi, hlen, hg, hnew, ha, hst]
set_option maxHeartbeats 8000000 in
theorem run_append_none {w : World} {t t' ty el : TypeId} {d : TypeDesc} {inf : TypeInfo} {vx : Value} 
    (ht : P.underlying t = some (.slice el)) (hd : P.underlying t' = some d) (hdi : ∀ k, d ≠ .int k) (hi : P.info? el = some inf) (hlen : (Builtin.lenOf vx).run P w = .ok 0 w)
    (hnew : (Builtin.firstCells inf.size 0 vx).run P w = .ok #[] w) :
    (Builtin.append_ #[t, t'] ty #[.slice none 0 0, vx]).run P w = .ok (.slice none 0 0) w := by
  cases d with
  | int k => exact absurd rfl (hdi k)
  | _ => simp [Builtin.append_, run_underlying' ht, run_underlying' hd, sizeOf, typeInfo, hi, hlen, hnew]
end more
end Go.Sl
