/-
  Laws of the sectors, in plain words: no program in sight.
-/
import Derived.Test.YticfabhcfdmbjaaModelP
namespace Go.Mo
open Go Go.Sl
theorem cat_bytes (ds : List Sec) : cat ds = (bytesOf ds).flatten := rfl
theorem bytes_len (ds : List Sec) : ds.length = (bytesOf ds).length := by simp [bytesOf]
theorem bytes_mid (ds : List Sec) (i n : Nat) : cat ((ds.drop i).take n) = (((bytesOf ds).drop i).take n).flatten := by
  simp [cat, bytesOf, List.map_take, List.map_drop]
theorem right_of {c lba n : Int} (h : 1 ≤ n ∧ n ≤ c ∧ 0 ≤ lba ∧ lba ≤ c - n) : Right c lba n := h
end Go.Mo
