/-
  How a script's step lies in memory.
-/
import Derived.Test.YticfabhcfdmbjaaYtTy
import Derived.Test.YticfabhcfdmbjaaModelL
import Derived.Test.YticfabhcfdmbjaaSl11
namespace Go.Proofs.Yticfabhcfdmbjaa
open Go Go.Sl Go.Mo Go.Proofs Go.ChangeShapes
theorem str_strV (s : ByteArray) : Value.string s = strV s.data.toList := by
  cases s with
  | mk d => show Value.string ⟨d⟩ = Value.string ⟨d.toList.toArray⟩; simp
theorem list4 {α : Type} {l : List α} (h : l.length = 4) : ∃ a b c d, l = [a, b, c, d] := by
  match l, h with
  | [a, b, c, d], _ => exact ⟨a, b, c, d, rfl⟩
theorem cmd_of {H : Type} {enc : TypeId × Value → H} {W : World} {sp : Nat → Bool} {held : Bool} {m : Nat} {c : List Value} {x : DataW H × List MemPlace} (h : DataW.trod enc Try.prog W 0 sp held m 35 c = some x) :
    ∃ k : Cmd, c = k.cells ∧ k.data.length ∈ x.1.weights Try.prog 35 := by
  obtain ⟨xs, n, _, hx, hl, hn, hf⟩ := DataW.trod_struct Try.underlying35 h
  have h3 : Try.prog.cellsOf 3 = 1 := by kernel_rfl
  have h9 : Try.prog.cellsOf 9 = 1 := by kernel_rfl
  have hl4 : c.length = 4 := hl.trans (by kernel_rfl)
  obtain ⟨c0, c1, c2, c3, rfl⟩ := list4 hl4
  obtain ⟨x0, x1, x2, x3, rfl⟩ := list4 (show xs.length = 4 from hn)
  have f0 : DataW.trod enc Try.prog W 0 sp held n 3 (([c0, c1, c2, c3].drop 0).take (Try.prog.cellsOf 3)) = some x0 := hf 0 _ rfl
  have f1 : DataW.trod enc Try.prog W 0 sp held n 3 (([c0, c1, c2, c3].drop 1).take (Try.prog.cellsOf 3)) = some x1 := hf 1 _ rfl
  have f2 : DataW.trod enc Try.prog W 0 sp held n 3 (([c0, c1, c2, c3].drop 2).take (Try.prog.cellsOf 3)) = some x2 := hf 2 _ rfl
  have f3 : DataW.trod enc Try.prog W 0 sp held n 9 (([c0, c1, c2, c3].drop 3).take (Try.prog.cellsOf 9)) = some x3 := hf 3 _ rfl
  rw [h3] at f0 f1 f2
  rw [h9] at f3
  obtain ⟨n0, e0, _, _⟩ := DataW.trod_int Try.underlying3 (x := x0) f0
  obtain ⟨n1, e1, _, _⟩ := DataW.trod_int Try.underlying3 (x := x1) f1
  obtain ⟨n2, e2, _, _⟩ := DataW.trod_int Try.underlying3 (x := x2) f2
  obtain ⟨s, e3, e3', _⟩ := DataW.trod_string Try.underlying9 (x := x3) f3
  simp at e0 e1 e2 e3
  subst e0 e1 e2 e3 e3' hx
  refine ⟨⟨n0, n1, n2, s.data.toList⟩, ?_, ?_⟩
  · simp only [Cmd.cells, str_strV]
  · simp only [DataW.weights, Try.underlying35, List.map_cons, DataW.weightsEach, List.mem_append]
    simp [DataW.weights]
theorem cmds_of {H : Type} {enc : TypeId × Value → H} {W : World} {sp : Nat → Bool} {held : Bool} {v : Value} {d : DataW H} {p : List MemPlace} (hv : ∃ a n c, v = .slice a n c) (h : DataW.Trod enc Try.prog W 0 sp held 31 v d p) (hw : ∀ n ∈ d.weights Try.prog 31, n ≤ 140737488351232) :
    ∃ (q : Option Addr) (scap : Nat) (cs : List Cmd), v = .slice q cs.length scap ∧ (0 < cs.length → ∃ b off, q = some ⟨b, off, none⟩ ∧ ∀ i (hi : i < cs.length), At W b (off + i * 4) cs[i].cells) ∧ (∀ c ∈ cs, c.data.length ≤ 140737488351232) := by
  obtain ⟨q, cap, l, rfl, _, hq, hl⟩ := open_cells Try.underlying31 (show Try.prog.cellsOf 35 = 4 by kernel_rfl) (by decide) hv h
  obtain ⟨cs, hlen, hr⟩ := pick_list (R := fun (c : List Value) (k : Cmd) => c = k.cells ∧ k.data.length ≤ 140737488351232) (l := l) (fun c hc => by
    obtain ⟨m, x, hx, hwt⟩ := hl c hc
    obtain ⟨k, hk, hkd⟩ := cmd_of hx
    exact ⟨k, hk, hw _ (hwt _ hkd)⟩)
  refine ⟨q, cap, cs, by rw [hlen], fun h0 => ?_, fun c hc => ?_⟩
  · obtain ⟨b, off, rfl, hat⟩ := hq (by omega)
    refine ⟨b, off, rfl, fun i hi => ?_⟩
    have := hat i (by omega)
    rwa [(hr i (by omega) hi).1] at this
  · obtain ⟨i, hi, rfl⟩ := List.getElem_of_mem hc
    exact (hr i (by omega) hi).2
end Go.Proofs.Yticfabhcfdmbjaa
