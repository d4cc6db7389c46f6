/-
  Bytes that come in: how they lie in memory. It proves nothing of the program by itself.
-/
import Derived.Test.YticfabhcfdmbjaaYtTy
import Derived.Test.YticfabhcfdmbjaaSl13
set_option linter.unusedVariables false
set_option linter.unusedSimpArgs false
namespace Go.Proofs.Yticfabhcfdmbjaa
open Go Go.Sl Go.Proofs Go.ChangeShapes
theorem byte_of {H : Type} {enc : TypeId × Value → H} {W : World} {sp : Nat → Bool} {held : Bool} {m : Nat} {c : List Value} {x : DataW H × List MemPlace} (h : DataW.trod enc Try.prog W 0 sp held m 5 c = some x) : ∃ b : UInt8, c = [u8V b] := by
  obtain ⟨n, rfl, _, hw⟩ := DataW.trod_int Try.underlying5 h
  have hr : 0 ≤ n ∧ n < 256 := by
    simp [Lit.wf, IntKind.min, IntKind.max, IntKind.signed, IntKind.bits] at hw
    omega
  refine ⟨UInt8.ofNat n.toNat, ?_⟩
  have : (UInt8.ofNat n.toNat).toNat = n.toNat := by
    rw [UInt8.toNat_ofNat']
    omega
  show _ = [Value.int .u8 ((UInt8.ofNat n.toNat).toNat : Int)]
  rw [this, Int.toNat_of_nonneg hr.1]
theorem bytes_of {H : Type} {enc : TypeId × Value → H} {W : World} {sp : Nat → Bool} {held : Bool} {v : Value} {d : DataW H} {p : List MemPlace} (hv : ∃ a n c, v = .slice a n c) (h : DataW.Trod enc Try.prog W 0 sp held 49 v d p) (hw : ∀ n ∈ d.weights Try.prog 49, n ≤ 140737488351232) :
    ∃ (q : Option Addr) (cap : Nat) (l : List UInt8), v = .slice q l.length cap ∧ l.length ≤ 140737488351232 ∧ Ent (old W) (view 1 (.slice q l.length cap) l.length (l.map u8V)) := by
  obtain ⟨q, cap, cs, rfl, _, hq, hl⟩ := open_cells Try.underlying49 (show Try.prog.cellsOf 5 = 1 by kernel_rfl) (by decide) hv h
  obtain ⟨l, hlen, hr⟩ := pick_list (R := fun (c : List Value) (b : UInt8) => c = [u8V b]) (l := cs) (fun c hc => by
    obtain ⟨m, x, hx, _⟩ := hl c hc
    exact byte_of hx)
  have hb : cs.length ≤ cap ∧ cap ≤ 9223372036854775807 ∧ cs.length ≤ 140737488351232 := by
    obtain ⟨fuel, hf⟩ := h
    rcases DataW.trod_slice Try.underlying49 hf with ⟨h0, _⟩ | ⟨a', len, cap', elems, rest, m, _, h0, hd, _, hlc, hcm, hel, _, _, _⟩
    · simp [Value.cells] at h0
      obtain ⟨rfl, h1, rfl⟩ := h0
      simp [h1]
    · simp [Value.cells] at h0
      obtain ⟨rfl, h1, rfl⟩ := h0
      have hb1 : Try.prog.bytesOf 5 = 1 := by kernel_rfl
      have h2 := hw ((elems.length + rest.length) * Try.prog.bytesOf 5) (by
        rw [show d = _ from congrArg Prod.fst hd]
        simp [DataW.weights, Try.underlying49])
      rw [hb1] at h2
      unfold maxLen at hcm
      omega
  refine ⟨q, cap, l, by rw [hlen], by omega, view_of_old (by simp) (by omega) hb.2.1 (fun h0 => ?_)⟩
  obtain ⟨b, off, rfl, hat⟩ := hq (by omega)
  refine ⟨b, off, rfl, fun k v hk => ?_⟩
  obtain ⟨hk1, rfl⟩ := List.getElem?_eq_some_iff.1 hk
  rw [List.length_map] at hk1
  have h3 := hat k (by omega) 0 (u8V l[k]) (by rw [hr k (by omega) hk1]; rfl)
  rw [List.getElem_map]
  rw [Nat.mul_one, Nat.add_zero] at h3
  exact h3
theorem u32_of {n : Int} (h : (Lit.int .u32 n).wf = true) : 0 ≤ n ∧ n < 4294967296 := by
  simp [Lit.wf, IntKind.min, IntKind.max, IntKind.signed, IntKind.bits] at h
  omega
end Go.Proofs.Yticfabhcfdmbjaa
