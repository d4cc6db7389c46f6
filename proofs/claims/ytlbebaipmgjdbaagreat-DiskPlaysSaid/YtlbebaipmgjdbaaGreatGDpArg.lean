/-
  How a script's step lies in memory.
-/
import Derived.Test.YtlbebaipmgjdbaaGreatGYsK1
import Derived.Test.YtlbebaipmgjdbaaGreatRows
import Derived.Test.YtlbebaipmgjdbaaGreatGYsD2
import Derived.SizedLaws
set_option linter.unusedVariables false
set_option linter.unusedSimpArgs false
namespace Go.Proofs.YtlbebaipmgjdbaaGreat
open Go Go.Sl Go.Mo Go.Proofs Go.ChangeShapes
theorem str_strV (s : ByteArray) : Value.string s = strV s.data.toList := by
  cases s with
  | mk d => show Value.string ⟨d⟩ = Value.string ⟨d.toList.toArray⟩; simp
theorem list5 {α : Type} {l : List α} (h : l.length = 5) : ∃ a b c d e, l = [a, b, c, d, e] := by
  match l, h with
  | [a, b, c, d, e], _ => exact ⟨a, b, c, d, e, rfl⟩
theorem dct_of {H : Type} {enc : TypeId × Value → H} {W : World} {sp : Nat → Bool} {held : Bool} {m : Nat} {c : List Value} {x : DataW H × List MemPlace} (h : DataW.trod enc Tryz.prog W 0 sp held m 31 c = some x) :
    ∃ k : Dct, c = k.cells ∧ k.data.length ∈ x.1.weights Tryz.prog 31 := by
  obtain ⟨xs, n, _, hx, hl, hn, hf⟩ := DataW.trod_struct Tryz.underlying31 h
  have h3 : Tryz.prog.cellsOf 3 = 1 := by kernel_rfl
  have h9 : Tryz.prog.cellsOf 9 = 1 := by kernel_rfl
  have hl5 : c.length = 5 := hl.trans (by kernel_rfl)
  obtain ⟨c0, c1, c2, c3, c4, rfl⟩ := list5 hl5
  obtain ⟨x0, x1, x2, x3, x4, rfl⟩ := list5 (show xs.length = 5 from hn)
  have f0 : DataW.trod enc Tryz.prog W 0 sp held n 3 (([c0, c1, c2, c3, c4].drop 0).take (Tryz.prog.cellsOf 3)) = some x0 := hf 0 _ rfl
  have f1 : DataW.trod enc Tryz.prog W 0 sp held n 3 (([c0, c1, c2, c3, c4].drop 1).take (Tryz.prog.cellsOf 3)) = some x1 := hf 1 _ rfl
  have f2 : DataW.trod enc Tryz.prog W 0 sp held n 3 (([c0, c1, c2, c3, c4].drop 2).take (Tryz.prog.cellsOf 3)) = some x2 := hf 2 _ rfl
  have f3 : DataW.trod enc Tryz.prog W 0 sp held n 3 (([c0, c1, c2, c3, c4].drop 3).take (Tryz.prog.cellsOf 3)) = some x3 := hf 3 _ rfl
  have f4 : DataW.trod enc Tryz.prog W 0 sp held n 9 (([c0, c1, c2, c3, c4].drop 4).take (Tryz.prog.cellsOf 9)) = some x4 := hf 4 _ rfl
  rw [h3] at f0 f1 f2 f3
  rw [h9] at f4
  obtain ⟨n0, e0, _, _⟩ := DataW.trod_int Tryz.underlying3 (x := x0) f0
  obtain ⟨n1, e1, _, _⟩ := DataW.trod_int Tryz.underlying3 (x := x1) f1
  obtain ⟨n2, e2, _, _⟩ := DataW.trod_int Tryz.underlying3 (x := x2) f2
  obtain ⟨n3, e3, _, _⟩ := DataW.trod_int Tryz.underlying3 (x := x3) f3
  obtain ⟨s, e4, e4', _⟩ := DataW.trod_string Tryz.underlying9 (x := x4) f4
  simp at e0 e1 e2 e3 e4
  subst e0 e1 e2 e3 e4 e4' hx
  refine ⟨⟨n0, n1, n2, n3, s.data.toList⟩, ?_, ?_⟩
  · simp only [Dct.cells, str_strV]
  · simp only [DataW.weights, Tryz.underlying31, List.map_cons, DataW.weightsEach, List.mem_append]
    simp [DataW.weights]
theorem dcts_of {H : Type} {enc : TypeId × Value → H} {W : World} {sp : Nat → Bool} {held : Bool} {v : Value} {d : DataW H} {p : List MemPlace} (hv : ∃ a n c, v = .slice a n c) (h : DataW.Trod enc Tryz.prog W 0 sp held 22 v d p) (hw : ∀ n ∈ d.weights Tryz.prog 22, n ≤ 140737488351232) :
    ∃ (q : Option Addr) (scap : Nat) (cs : List Dct), v = .slice q cs.length scap ∧ (0 < cs.length → ∃ b off, q = some ⟨b, off, none⟩ ∧ ∀ i (hi : i < cs.length), At W b (off + i * 5) cs[i].cells) ∧ (∀ c ∈ cs, c.data.length ≤ 140737488351232) := by
  obtain ⟨q, cap, l, rfl, _, hq, hl⟩ := open_cells Tryz.underlying22 (show Tryz.prog.cellsOf 31 = 5 by kernel_rfl) (by decide) hv h
  obtain ⟨cs, hlen, hr⟩ := pick_list (R := fun (c : List Value) (k : Dct) => c = k.cells ∧ k.data.length ≤ 140737488351232) (l := l) (fun c hc => by
    obtain ⟨m, x, hx, hwt⟩ := hl c hc
    obtain ⟨k, hk, hkd⟩ := dct_of hx
    exact ⟨k, hk, hw _ (hwt _ hkd)⟩)
  refine ⟨q, cap, cs, by rw [hlen], fun h0 => ?_, fun c hc => ?_⟩
  · obtain ⟨b, off, rfl, hat⟩ := hq (by omega)
    refine ⟨b, off, rfl, fun i hi => ?_⟩
    have := hat i (by omega)
    rwa [(hr i (by omega) hi).1] at this
  · obtain ⟨i, hi, rfl⟩ := List.getElem_of_mem hc
    exact (hr i (by omega) hi).2
end Go.Proofs.YtlbebaipmgjdbaaGreat
namespace Go.Proofs.YtlbebaipmgjdbaaGreat.diskPlays
open Go Go.ChangeShapes Go.WideShapes Go.ChangeAt Go.RowKit Go.Sl Go.Mo
theorem DiskPlays_spec (w0 : World) (size : Int) (q : Option Addr) (scap : Nat) (cs : List Dct) (hq : 0 < cs.length → ∃ b off, q = some ⟨b, off, none⟩ ∧ ∀ i (hi : i < cs.length), At w0 b (off + i * 5) cs[i].cells) (hd : ∀ c ∈ cs, c.data.length ≤ 140737488351232) :
    Ctr Tryz.prog 3 [.int .i64 size, .slice q cs.length scap] [old w0] (fun v Ps => v = .bool true ∧ Ps = [old w0]) := by
  by_cases h1 : size < 1 ∨ 512 < size
  · exact DiskPlays_bad w0 size q scap cs h1
  by_cases h2 : 25 < cs.length ∨ 64 < size
  · exact DiskPlays_skip w0 size q scap cs (by omega) h2
  obtain ⟨sz, rfl⟩ := Int.eq_ofNat_of_zero_le (show 0 ≤ size by omega)
  exact DiskPlays_run w0 sz q scap cs (by omega) (by omega) hq hd
theorem own : ownKnob Tryz.prog.godebug = none := by kernel_rfl
theorem laidOut : laidOutB Tryz.prog = true := by kernel_rfl
set_option maxRecDepth 100000 in
theorem lifted (os : Os) (started : os.Started) (H : Type) (enc : TypeId × Value → H) :
    ReturnsInHanded {} Tryz.checked os 3 .any (Rows.diskPlaysSpec.pre6 enc Tryz.prog Tryz.f3 Rows.diskPlaysRow.domain false) (Rows.diskPlaysSpec.post enc Tryz.prog Tryz.f3 false true false false) := by
  refine returnsInHanded_of_change_sized (C := Tryz.checked) own started (by kernel_rfl) Tryz.func3
    (ChangeSpec.witness6 (enc := enc) (C := Tryz.checked) false ⟨#[], #[.int .i64 0, .slice none 0 0], []⟩ 8 (by kernel_rfl) (by kernel_rfl) (by kernel_rfl) (by kernel_rfl)) ?_
  intro W base args ds gs before hval0 hW hcnd hsz _
  have hval : ∀ (j : Nat) t v, Tryz.f3.params[j]? = some t → args[j]? = some v → Value.okWide Tryz.prog W .any base t v := hval0
  have hW' := hW
  obtain ⟨p, q, hA0, hV, rfl, hfz, hnd⟩ := hW
  have hA : DataW.TrodAll enc Tryz.prog W 0 (fun _ => true) true Tryz.f3.params.toList args.toList ds p := hA0
  rw [Tryz.params3] at hA hval
  obtain ⟨v0, vs0, d0, ds0, p0, q0, hargs, rfl, rfl, h0, r0⟩ := trodAll_cons hA
  obtain ⟨v1, vs1, d1, ds1, p1, q1, rfl, rfl, rfl, h1, r1⟩ := trodAll_cons r0
  obtain ⟨rfl, rfl, rfl⟩ := trodAll_nil r1
  obtain rfl : args = #[v0, v1] := by cases args; simp_all
  obtain ⟨rfl, rfl⟩ := trodVars_none hV
  obtain ⟨a0, rfl, _, _, _⟩ := open_int Tryz.underlying3 (hval 0 3 v0 rfl rfl) h0
  obtain ⟨qq, scap, cs, rfl, hq, hd⟩ := dcts_of (okWide_slice Tryz.underlying22 (hval 1 22 v1 rfl rfl)) h1 (fun n hn => by
    have h5 := List.all_eq_true.1 hsz n (DataW.weights_mem_each (j := 1) (t := 22) (d := d1) (by rw [show Tryz.checked.prog = Tryz.prog from rfl, Tryz.params3]; rfl) rfl n hn)
    exact of_decide_eq_true h5)
  refine (Ctr.calls1 W (DiskPlays_spec W a0 qq scap cs hq hd)).mono fun e W' ⟨he, hb⟩ => ?_
  subst he
  exact ⟨_, rfl, post_law hW' laidOut (by kernel_rfl) rfl rfl Tryz.underlying4 rfl rfl rfl hb⟩
theorem proved : Rows.DiskPlaysSaid :=
  OpenClaim.holds_of_wide 3 Tryz.f3 rfl rfl rfl rfl rfl rfl rfl ⟨rfl, rfl, rfl, rfl, rfl⟩ rfl rfl rfl rfl rfl (by kernel_rfl) Tryz.func3 (by kernel_rfl)
    (of_decide_eq_true (by kernel_rfl)) (by unfold Func.isWrapper; first | (rw [if_pos (by decide +kernel)]; kernel_rfl) | (rw [if_neg (by decide +kernel)]; exact ⟨rfl, rfl⟩))
    (fun os started H enc _ => lifted os started H enc)
#print axioms proved
end Go.Proofs.YtlbebaipmgjdbaaGreat.diskPlays
