/-
  Streams and picks that come in: how they lie in memory. It proves nothing of the program by itself.
-/
import Derived.Test.YticfabhcfdmbjaaYtChg
import Derived.Test.YticfabhcfdmbjaaYtByt
set_option linter.unusedVariables false
set_option linter.unusedSimpArgs false
namespace Go.Proofs.Yticfabhcfdmbjaa
open Go Go.Sl Go.Proofs Go.ChangeShapes Go.Mo
theorem bytes_view {H : Type} {enc : TypeId × Value → H} {W : World} {sp : Nat → Bool} {held : Bool} {v : Value} {d : DataW H} {p : List MemPlace} (hv : ∃ a n c, v = .slice a n c) (h : DataW.Trod enc Try.prog W 0 sp held 49 v d p) :
    ∃ (q : Option Addr) (cap : Nat) (l : List UInt8), v = .slice q l.length cap ∧ Ent (old W) (view 1 (.slice q l.length cap) l.length (l.map u8V)) := by
  obtain ⟨q, cap, cs, rfl, _, hq, hl⟩ := open_cells Try.underlying49 (show Try.prog.cellsOf 5 = 1 by kernel_rfl) (by decide) hv h
  obtain ⟨l, hlen, hr⟩ := pick_list (R := fun (c : List Value) (b : UInt8) => c = [u8V b]) (l := cs) (fun c hc => by
    obtain ⟨m, x, hx, _⟩ := hl c hc
    exact byte_of hx)
  have hb : cs.length ≤ cap ∧ cap ≤ 9223372036854775807 := by
    obtain ⟨fuel, hf⟩ := h
    rcases DataW.trod_slice Try.underlying49 hf with ⟨h0, _⟩ | ⟨a', len, cap', elems, rest, m, _, h0, hd, _, hlc, hcm, hel, _, _, _⟩
    · simp [Value.cells] at h0
      obtain ⟨rfl, h1, rfl⟩ := h0
      simp [h1]
    · simp [Value.cells] at h0
      obtain ⟨rfl, h1, rfl⟩ := h0
      unfold maxLen at hcm
      omega
  refine ⟨q, cap, l, by rw [hlen], view_of_old (by simp) (by omega) hb.2 (fun h0 => ?_)⟩
  obtain ⟨b, off, rfl, hat⟩ := hq (by omega)
  refine ⟨b, off, rfl, fun k v hk => ?_⟩
  obtain ⟨hk1, rfl⟩ := List.getElem?_eq_some_iff.1 hk
  rw [List.length_map] at hk1
  have h3 := hat k (by omega) 0 (u8V l[k]) (by rw [hr k (by omega) hk1]; rfl)
  rw [List.getElem_map]
  rw [Nat.mul_one, Nat.add_zero] at h3
  exact h3
theorem list4' {α : Type} {l : List α} (h : l.length = 4) : ∃ a b c d, l = [a, b, c, d] := by
  match l, h with
  | [a, b, c, d], _ => exact ⟨a, b, c, d, rfl⟩
theorem stream_of {H : Type} {enc : TypeId × Value → H} {W : World} {sp : Nat → Bool} {held : Bool} {m : Nat} {c : List Value} {x : DataW H × List MemPlace} (h : DataW.trod enc Try.prog W 0 sp held m 51 c = some x) :
    ∃ s : Sm, c = s.cells ∧ s.fit (old W) := by
  obtain ⟨xs, n, _, hx, hl, hn, hf⟩ := DataW.trod_struct Try.underlying51 h
  have h3 : Try.prog.cellsOf 3 = 1 := by kernel_rfl
  have h48 : Try.prog.cellsOf 48 = 1 := by kernel_rfl
  have h49 : Try.prog.cellsOf 49 = 1 := by kernel_rfl
  obtain ⟨c0, c1, c2, c3, rfl⟩ := list4' (hl.trans (by kernel_rfl))
  obtain ⟨x0, x1, x2, x3, rfl⟩ := list4' (show xs.length = 4 from hn)
  have f0 : DataW.trod enc Try.prog W 0 sp held n 3 (([c0, c1, c2, c3].drop 0).take (Try.prog.cellsOf 3)) = some x0 := hf 0 _ rfl
  have f1 : DataW.trod enc Try.prog W 0 sp held n 48 (([c0, c1, c2, c3].drop 1).take (Try.prog.cellsOf 48)) = some x1 := hf 1 _ rfl
  have f2 : DataW.trod enc Try.prog W 0 sp held n 48 (([c0, c1, c2, c3].drop 2).take (Try.prog.cellsOf 48)) = some x2 := hf 2 _ rfl
  have f3 : DataW.trod enc Try.prog W 0 sp held n 49 (([c0, c1, c2, c3].drop 3).take (Try.prog.cellsOf 49)) = some x3 := hf 3 _ rfl
  rw [h3] at f0
  rw [h48] at f1 f2
  rw [h49] at f3
  obtain ⟨n0, e0, _, _⟩ := DataW.trod_int Try.underlying3 (x := x0) f0
  obtain ⟨n1, e1, _, w1⟩ := DataW.trod_int Try.underlying48 (x := x1) f1
  obtain ⟨n2, e2, _, w2⟩ := DataW.trod_int Try.underlying48 (x := x2) f2
  simp at e0 e1 e2
  subst e0 e1 e2
  have f3 : DataW.trod enc Try.prog W 0 sp held n 49 [c3] = some x3 := f3
  have hv : ∃ a n c, c3 = .slice a n c := by
    rcases DataW.trod_slice Try.underlying49 f3 with ⟨h0, _⟩ | ⟨a', len, cap', elems, rest, m, _, h0, _⟩
    · injection h0 with h1 _
      exact ⟨_, _, _, h1⟩
    · injection h0 with h1 _
      exact ⟨_, _, _, h1⟩
  have ht : DataW.Trod enc Try.prog W 0 sp held 49 c3 x3.1 x3.2 := ⟨n, by
    obtain ⟨a, k, c, rfl⟩ := hv
    exact f3⟩
  obtain ⟨q, cap, l, rfl, hl2⟩ := bytes_view hv ht
  exact ⟨⟨⟨n0, n1, n2⟩, .slice q l.length cap, l⟩, rfl, ⟨u32_of w1, u32_of w2, hl2, rfl⟩⟩
theorem pick_of {H : Type} {enc : TypeId × Value → H} {W : World} {sp : Nat → Bool} {held : Bool} {m : Nat} {c : List Value} {x : DataW H × List MemPlace} (h : DataW.trod enc Try.prog W 0 sp held m 66 c = some x) :
    ∃ k : Pk, c = k.cells := by
  obtain ⟨xs, n, _, hx, hl, hn, hf⟩ := DataW.trod_struct Try.underlying66 h
  have h3 : Try.prog.cellsOf 3 = 1 := by kernel_rfl
  obtain ⟨c0, c1, c2, c3, rfl⟩ := list4' (hl.trans (by kernel_rfl))
  obtain ⟨x0, x1, x2, x3, rfl⟩ := list4' (show xs.length = 4 from hn)
  have f0 : DataW.trod enc Try.prog W 0 sp held n 3 (([c0, c1, c2, c3].drop 0).take (Try.prog.cellsOf 3)) = some x0 := hf 0 _ rfl
  have f1 : DataW.trod enc Try.prog W 0 sp held n 3 (([c0, c1, c2, c3].drop 1).take (Try.prog.cellsOf 3)) = some x1 := hf 1 _ rfl
  have f2 : DataW.trod enc Try.prog W 0 sp held n 3 (([c0, c1, c2, c3].drop 2).take (Try.prog.cellsOf 3)) = some x2 := hf 2 _ rfl
  have f3 : DataW.trod enc Try.prog W 0 sp held n 3 (([c0, c1, c2, c3].drop 3).take (Try.prog.cellsOf 3)) = some x3 := hf 3 _ rfl
  rw [h3] at f0 f1 f2 f3
  obtain ⟨n0, e0, _, _⟩ := DataW.trod_int Try.underlying3 (x := x0) f0
  obtain ⟨n1, e1, _, _⟩ := DataW.trod_int Try.underlying3 (x := x1) f1
  obtain ⟨n2, e2, _, _⟩ := DataW.trod_int Try.underlying3 (x := x2) f2
  obtain ⟨n3, e3, _, _⟩ := DataW.trod_int Try.underlying3 (x := x3) f3
  simp at e0 e1 e2 e3
  subst e0 e1 e2 e3
  exact ⟨⟨n0, n1, n2, n3⟩, rfl⟩
/-- A slice of elements of four cells. -/
theorem fours_of {H : Type} {enc : TypeId × Value → H} {W : World} {sp : Nat → Bool} {held : Bool} {t e : TypeId} {v : Value} {d : DataW H} {p : List MemPlace} {α : Type} {f : α → List Value} {R : α → Prop} (hf4 : ∀ x, (f x).length = 4) (ht : Try.prog.underlying t = some (.slice e)) (hc : Try.prog.cellsOf e = 4)
    (hone : ∀ (m : Nat) (c : List Value) (x : DataW H × List MemPlace), DataW.trod enc Try.prog W 0 sp held m e c = some x → ∃ a, c = f a ∧ R a) (hv : ∃ a n c, v = .slice a n c) (h : DataW.Trod enc Try.prog W 0 sp held t v d p) :
    ∃ l : List α, (∀ a ∈ l, R a) ∧ Ent (old W) (view 4 v l.length ((l.map f).flatten)) := by
  obtain ⟨q, cap, cs, rfl, _, hq, hl⟩ := open_cells ht hc (by decide) hv h
  obtain ⟨l, hlen, hr⟩ := pick_list (R := fun (c : List Value) (a : α) => c = f a ∧ R a) (l := cs) (fun c hc => by
    obtain ⟨m, x, hx, _⟩ := hl c hc
    exact hone m c x hx)
  have hb : cs.length ≤ cap ∧ cap ≤ 9223372036854775807 := by
    obtain ⟨fuel, hf⟩ := h
    rcases DataW.trod_slice ht hf with ⟨h0, _⟩ | ⟨a', len, cap', elems, rest, m, _, h0, hd, _, hlc, hcm, hel, _, _, _⟩
    · simp [Value.cells] at h0
      obtain ⟨rfl, h1, rfl⟩ := h0
      simp [h1]
    · simp [Value.cells] at h0
      obtain ⟨rfl, h1, rfl⟩ := h0
      unfold maxLen at hcm
      omega
  refine ⟨l, fun a ha => ?_, ?_⟩
  · obtain ⟨i, hi, rfl⟩ := List.getElem_of_mem ha
    exact (hr i (by omega) hi).2
  · have h1 := flat_len4 hf4 l
    rw [← hlen]
    rw [← hlen] at hb
    refine view_of_old h1 (by omega) hb.2 (fun h0 => ?_)
    obtain ⟨b, off, rfl, hat⟩ := hq (by omega)
    refine ⟨b, off, rfl, fun k u hk => ?_⟩
    obtain ⟨hk1, _⟩ := List.getElem?_eq_some_iff.1 hk
    have hi : k / 4 < l.length := by omega
    have h3 := hat (k / 4) (by omega) (k % 4) u (by
      rw [(hr (k / 4) (by omega) hi).1, ← flat_at4 hf4 hi (Nat.mod_lt _ (by omega)), show k / 4 * 4 + k % 4 = k from by omega]
      exact hk)
    rwa [show off + k / 4 * 4 + k % 4 = off + k from by omega] at h3
end Go.Proofs.Yticfabhcfdmbjaa
