/-
  ScriptBack answers true at any commands and gap of the bound, and leaves all as it was.
-/
import Derived.Test.YtokbjejbgbdkoaaGreatDoorGSrGlob
import Derived.Test.YtokbjejbgbdkoaaGreatDoorGYrF1
import Derived.Test.YtokbjejbgbdkoaaGreatDoorGSl9
set_option linter.unusedVariables false
set_option linter.unusedSimpArgs false
namespace Go.Proofs.YtokbjejbgbdkoaaGreatDoor.scriptBack
open Go Go.ChangeShapes Go.WideShapes Go.ChangeAt Go.RowKit Go.Sl Go.Evl Go.Mo scriptReads
theorem one_le {H : Type} (d : DataW H) : 1 ≤ Rows.uptoBulk d := by
  cases d with
  | lit l => cases l <;> simp [Rows.uptoBulk]
  | _ => simp [Rows.uptoBulk]
theorem part_le {H : Type} {d : DataW H} : ∀ {l : List (DataW H)}, d ∈ l → Rows.uptoBulk d ≤ Rows.uptoBulkAll l
  | [], h => by cases h
  | x :: r, h => by
    simp only [Rows.uptoBulkAll]
    rcases List.mem_cons.1 h with rfl | h
    · omega
    · have := part_le h
      omega
theorem length_le {H : Type} : ∀ l : List (DataW H), l.length ≤ Rows.uptoBulkAll l
  | [] => Nat.zero_le _
  | x :: r => by
    have h1 := one_le x
    have h2 := length_le r
    simp only [Rows.uptoBulkAll, List.length_cons]
    omega
theorem i64_of {n : Int} (h : (Lit.int .i64 n).wf = true) : -9223372036854775808 ≤ n ∧ n ≤ 9223372036854775807 := by
  simp [Lit.wf, IntKind.min, IntKind.max, IntKind.signed, IntKind.bits] at h
  omega
theorem list4 {α : Type} {l : List α} (h : l.length = 4) : ∃ a b c d, l = [a, b, c, d] := by
  match l, h with
  | [a, b, c, d], _ => exact ⟨a, b, c, d, rfl⟩
theorem say_of {H : Type} {enc : TypeId × Value → H} {W : World} {sp : Nat → Bool} {held : Bool} {m : Nat} {c : List Value} {x : DataW H × List MemPlace} (h : DataW.trod enc Tryz.prog W 0 sp held m 42 c = some x) :
    ∃ y : Sy, c = syC y ∧ (-9223372036854775808 ≤ y.a ∧ y.a ≤ 9223372036854775807) ∧ (-9223372036854775808 ≤ y.b ∧ y.b ≤ 9223372036854775807) ∧ y.d.length ≤ Rows.uptoBulk x.1 := by
  obtain ⟨xs, n, _, hx, hl, hn, hf⟩ := DataW.trod_struct Tryz.underlying42 h
  have h3 : Tryz.prog.cellsOf 3 = 1 := by kernel_rfl
  have h9 : Tryz.prog.cellsOf 9 = 1 := by kernel_rfl
  obtain ⟨c0, c1, c2, c3, rfl⟩ := list4 (hl.trans (by kernel_rfl))
  obtain ⟨x0, x1, x2, x3, rfl⟩ := list4 (show xs.length = 4 from hn)
  have f0 : DataW.trod enc Tryz.prog W 0 sp held n 3 (([c0, c1, c2, c3].drop 0).take (Tryz.prog.cellsOf 3)) = some x0 := hf 0 _ rfl
  have f1 : DataW.trod enc Tryz.prog W 0 sp held n 3 (([c0, c1, c2, c3].drop 1).take (Tryz.prog.cellsOf 3)) = some x1 := hf 1 _ rfl
  have f2 : DataW.trod enc Tryz.prog W 0 sp held n 3 (([c0, c1, c2, c3].drop 2).take (Tryz.prog.cellsOf 3)) = some x2 := hf 2 _ rfl
  have f3 : DataW.trod enc Tryz.prog W 0 sp held n 9 (([c0, c1, c2, c3].drop 3).take (Tryz.prog.cellsOf 9)) = some x3 := hf 3 _ rfl
  rw [h3] at f0 f1 f2
  rw [h9] at f3
  obtain ⟨n0, e0, _, _⟩ := DataW.trod_int Tryz.underlying3 (x := x0) f0
  obtain ⟨n1, e1, _, w1⟩ := DataW.trod_int Tryz.underlying3 (x := x1) f1
  obtain ⟨n2, e2, _, w2⟩ := DataW.trod_int Tryz.underlying3 (x := x2) f2
  obtain ⟨s, e3, d3, _⟩ := DataW.trod_string Tryz.underlying9 (x := x3) f3
  simp at e0 e1 e2 e3
  subst e0 e1 e2 e3
  refine ⟨⟨n0, n1, n2, s.data.toList⟩, rfl, i64_of w1, i64_of w2, ?_⟩
  rw [hx, d3]
  simp only [List.map_cons, List.map_nil, Rows.uptoBulk, Rows.uptoBulkAll]
  omega
theorem says_of {H : Type} {enc : TypeId × Value → H} {W : World} {sp : Nat → Bool} {held : Bool} {v : Value} {d : DataW H} {p : List MemPlace} (hv : ∃ a n c, v = .slice a n c) (h : DataW.Trod enc Tryz.prog W 0 sp held 39 v d p) :
    ∃ (q : Option Addr) (cap : Nat) (xs : List Sy), v = .slice q xs.length cap ∧ (0 < xs.length → ∃ b off, q = some ⟨b, off, none⟩ ∧ Ent (old W) (cellsAt b off ((xs.map syC).flatten))) ∧ xs.length ≤ Rows.uptoBulk d ∧
      ∀ x ∈ xs, (-9223372036854775808 ≤ x.a ∧ x.a ≤ 9223372036854775807) ∧ (-9223372036854775808 ≤ x.b ∧ x.b ≤ 9223372036854775807) ∧ x.d.length ≤ Rows.uptoBulk d := by
  obtain ⟨q, cap, cs, rfl, hq, hl⟩ := open_elems Tryz.underlying39 (show Tryz.prog.cellsOf 42 = 4 by kernel_rfl) (by decide) hv h
  obtain ⟨xs, hlen, hr⟩ := pick_list (R := fun (c : List Value) (y : Sy) => c = syC y ∧ (-9223372036854775808 ≤ y.a ∧ y.a ≤ 9223372036854775807) ∧ (-9223372036854775808 ≤ y.b ∧ y.b ≤ 9223372036854775807) ∧ y.d.length ≤ Rows.uptoBulk d) (l := cs) (fun c hc => by
    rcases hl with rfl | ⟨els, rest, rfl, _, hl⟩
    · cases hc
    · obtain ⟨m, x, hx, hm⟩ := hl c hc
      obtain ⟨y, h1, h2, h3, h4⟩ := say_of hx
      have := part_le hm
      refine ⟨y, h1, h2, h3, ?_⟩
      simp only [Rows.uptoBulk]
      omega)
  refine ⟨q, cap, xs, by rw [hlen], fun h0 => ?_, ?_, fun x hx => ?_⟩
  · obtain ⟨b, off, rfl, hat⟩ := hq (by omega)
    refine ⟨b, off, rfl, old_cellsAt fun k u hk => ?_⟩
    obtain ⟨hk1, _⟩ := List.getElem?_eq_some_iff.1 hk
    rw [sy_len] at hk1
    have hi : k / 4 < xs.length := by omega
    have h3 := hat (k / 4) (by omega) (k % 4) u (by
      rw [(hr (k / 4) (by omega) hi).1, ← sy_at hi (k % 4) (Nat.mod_lt _ (by omega)), show k / 4 * 4 + k % 4 = k from by omega]
      exact hk)
    rwa [show off + k / 4 * 4 + k % 4 = off + k from by omega] at h3
  · rcases hl with rfl | ⟨els, rest, rfl, he, _⟩
    · rw [hlen]; exact Nat.zero_le _
    · have := length_le els
      simp only [Rows.uptoBulk]
      omega
  · obtain ⟨i, hi, rfl⟩ := List.getElem_of_mem hx
    exact (hr i (by omega) hi).2
theorem reads (os : Os) {H : Type} (enc : TypeId × Value → H) : ∃ places, DataW.whole enc Tryz.prog ((laidWorld os).forCall (fun _ _ => 0) ⟨#[], #[.slice none 0 0, .string ⟨#[]⟩], []⟩).memory Tryz.f4.params.toList Rows.scriptBackSpec.vars false #[Value.slice none 0 0, Value.string ⟨#[]⟩].toList 8 = some ([.nil, .lit (.string [])], [], places) :=
  ⟨[], by kernel_rfl⟩
set_option maxRecDepth 100000 in
theorem lifted (os : Os) (started : os.Started) (H : Type) (enc : TypeId × Value → H) (F : Stop.Interp) :
    ReturnsInHanded {} Tryz.checked os 4 .any ((Rows.OpenSpec.upto Rows.scriptBackSpec).preRow enc Tryz.prog Tryz.f4 Rows.scriptBackUptoRow.domain false Rows.scriptBackUptoRow.laid) (((Rows.OpenSpec.upto Rows.scriptBackSpec).at F).post enc Tryz.prog Tryz.f4 false true false false) := by
  obtain ⟨places, hx⟩ := reads os enc
  refine returnsInHanded_of_row (C := Tryz.checked) (s := Rows.OpenSpec.upto Rows.scriptBackSpec) own started (by kernel_rfl) Tryz.func4
    (witness_row_atRef (enc := enc) (C := Tryz.checked) false (laidWorld os) #[.slice none 0 0, .string ⟨#[]⟩] rfl (by kernel_rfl) (by kernel_rfl) (by kernel_rfl)
      (OpenSpec.preRow_of_cond 8 hx (by kernel_rfl) (fun k hk => by cases hk; kernel_rfl) (by kernel_rfl) (laidWorld_met os _))) ?_
  intro W base args ds gs before hval0 hW _ hcond _ hX hso _
  have hval : ∀ (j : Nat) t v, Tryz.f4.params[j]? = some t → args[j]? = some v → Value.okWide Tryz.prog W .any base t v := hval0
  have hW' := hW
  obtain ⟨p, q, hA0, hV, rfl, hfz, hnd⟩ := hW
  have hA : DataW.TrodAll enc Tryz.prog W 0 (fun _ => true) true Tryz.f4.params.toList args.toList ds p := hA0
  rw [Tryz.params4] at hA hval
  obtain ⟨v0, vs0, d0, ds0, p0, q0, hargs, rfl, rfl, h0, r0⟩ := trodAll_cons hA
  obtain ⟨v1, vs1, d1, ds1, p1, q1, rfl, rfl, rfl, h1, r1⟩ := trodAll_cons r0
  obtain ⟨rfl, rfl, rfl⟩ := trodAll_nil r1
  obtain rfl : args = #[v0, v1] := by cases args; simp_all
  obtain ⟨s, rfl, rfl, rfl, hs⟩ := Go.ChangeMaps.open_string Tryz.underlying9 (hval 1 9 v1 rfl rfl) h1
  obtain ⟨rfl, rfl⟩ := trodVars_none hV
  have hk := of_decide_eq_true (hcond _ rfl)
  obtain ⟨qa, cap, xs, rfl, hq, hxl, hxs⟩ := says_of (okWide_slice Tryz.underlying39 (hval 0 39 v0 rfl rfl)) h0
  simp only [List.append_nil, Rows.uptoBulkAll, Rows.uptoBulk] at hk
  have hc := Ctr.calls1 W (ScriptBack_walk (old W) (glob hX) (glob2 hX hso) (awO hX) xs qa cap s.data.toList (fun x hx => ⟨(hxs x hx).1, (hxs x hx).2.1, by have := (hxs x hx).2.2; omega⟩) hq (by omega) (by omega))
  refine hc.mono fun e W' ⟨he, hb⟩ => ?_
  subst he
  exact ⟨_, rfl, post_law hW' laidOut (by kernel_rfl) rfl rfl Tryz.underlying4 rfl rfl rfl hb⟩
end Go.Proofs.YtokbjejbgbdkoaaGreatDoor.scriptBack
