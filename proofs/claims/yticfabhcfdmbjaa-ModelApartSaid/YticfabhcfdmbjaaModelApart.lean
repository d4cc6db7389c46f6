/-
  ModelApart answers true at every size and every two steps, and leaves all as it was.
-/
import Derived.Test.YticfabhcfdmbjaaRows
import Derived.Test.YticfabhcfdmbjaaYtCmd
import Derived.Test.YticfabhcfdmbjaaYtM14
import Derived.SizedLaws
namespace Go.Proofs.Yticfabhcfdmbjaa.modelApart
open Go Go.ChangeShapes Go.WideShapes Go.ChangeAt Go.RowKit Go.Sl Go.Mo
set_option linter.unusedVariables false
theorem ModelApart_spec (size : Int) (x y : Cmd) (hd : x.data.length ≤ 140737488351232) :
    Ctr Try.prog 5 [.int .i64 size, .agg x.cells.toArray, .agg y.cells.toArray] [] (fun v Ps => v = .bool true ∧ Ps = []) := by
  by_cases h1 : size < 1 ∨ 512 < size
  · exact ModelApart_bad size x y h1
  obtain ⟨sz, rfl⟩ := Int.eq_ofNat_of_zero_le (show 0 ≤ size by omega)
  exact ModelApart_run sz x y (by omega) hd
theorem own : ownKnob Try.prog.godebug = none := by kernel_rfl
theorem laidOut : laidOutB Try.prog = true := by kernel_rfl
theorem agg_of {P : Program} {W : World} {base : Nat} {t : TypeId} {fs : Array Field} {v : Value} (ht : P.underlying t = some (.struct fs)) (h : Value.okWide P W .any base t v) : ∃ cs : Array Value, v = .agg cs := by
  unfold Value.okWide at h
  rw [ht] at h
  obtain ⟨cs, h, _⟩ := h
  exact ⟨cs, h⟩
set_option maxRecDepth 100000 in
theorem cmd_arg {H : Type} {enc : TypeId × Value → H} {W : World} {base : Nat} {sp : Nat → Bool} {held : Bool} {v : Value} {d : DataW H} {p : List MemPlace} (hv : Value.okWide Try.prog W .any base 35 v) (h : DataW.Trod enc Try.prog W 0 sp held 35 v d p) :
    ∃ k : Cmd, v = .agg k.cells.toArray ∧ k.data.length ∈ d.weights Try.prog 35 := by
  obtain ⟨cs, rfl⟩ := agg_of Try.underlying35 hv
  obtain ⟨m, hm⟩ := h
  obtain ⟨k, hk, hw⟩ := cmd_of hm
  have hc : cs.toList = k.cells := hk
  exact ⟨k, by rw [← hc], hw⟩
set_option maxRecDepth 100000 in
theorem lifted (os : Os) (started : os.Started) (H : Type) (enc : TypeId × Value → H) :
    ReturnsInHanded {} Try.checked os 5 .any (Rows.modelApartSpec.pre6 enc Try.prog Try.f5 Rows.modelApartRow.domain false) (Rows.modelApartSpec.post enc Try.prog Try.f5 false true false false) := by
  refine returnsInHanded_of_change_sized (C := Try.checked) own started (by kernel_rfl) Try.func5
    (ChangeSpec.witness6 (enc := enc) (C := Try.checked) false ⟨#[], #[.int .i64 0, .agg #[.int .i64 0, .int .i64 0, .int .i64 0, .string ⟨#[]⟩], .agg #[.int .i64 0, .int .i64 0, .int .i64 0, .string ⟨#[]⟩]], []⟩ 8 (by kernel_rfl) (by kernel_rfl) (by kernel_rfl) (by kernel_rfl)) ?_
  intro W base args ds gs before hval0 hW hcnd hsz _
  have hval : ∀ (j : Nat) t v, Try.f5.params[j]? = some t → args[j]? = some v → Value.okWide Try.prog W .any base t v := hval0
  have hW' := hW
  obtain ⟨p, q, hA0, hV, rfl, hfz, hnd⟩ := hW
  have hA : DataW.TrodAll enc Try.prog W 0 (fun _ => true) true Try.f5.params.toList args.toList ds p := hA0
  rw [Try.params5] at hA hval
  obtain ⟨v0, vs0, d0, ds0, p0, q0, hargs, rfl, rfl, h0, r0⟩ := trodAll_cons hA
  obtain ⟨v1, vs1, d1, ds1, p1, q1, rfl, rfl, rfl, h1, r1⟩ := trodAll_cons r0
  obtain ⟨v2, vs2, d2, ds2, p2, q2, rfl, rfl, rfl, h2, r2⟩ := trodAll_cons r1
  obtain ⟨rfl, rfl, rfl⟩ := trodAll_nil r2
  obtain rfl : args = #[v0, v1, v2] := by cases args; simp_all
  obtain ⟨rfl, rfl⟩ := trodVars_none hV
  obtain ⟨a0, rfl, _, _, _⟩ := open_int Try.underlying3 (hval 0 3 v0 rfl rfl) h0
  obtain ⟨x, rfl, hx⟩ := cmd_arg (hval 1 35 v1 rfl rfl) h1
  obtain ⟨y, rfl, _⟩ := cmd_arg (hval 2 35 v2 rfl rfl) h2
  have hd : x.data.length ≤ 140737488351232 :=
    of_decide_eq_true (List.all_eq_true.1 hsz _ (DataW.weights_mem_each (j := 1) (t := 35) (d := d1) (by rw [show Try.checked.prog = Try.prog from rfl, Try.params5]; rfl) rfl _ hx))
  refine (Ctr.calls0 W (ModelApart_spec a0 x y hd)).mono fun e W' ⟨he, hb⟩ => ?_
  subst he
  exact ⟨_, rfl, post_law hW' laidOut (by kernel_rfl) rfl rfl Try.underlying4 rfl rfl rfl hb⟩
theorem proved : Rows.ModelApartSaid :=
  OpenClaim.holds_of_wide 5 Try.f5 rfl rfl rfl rfl rfl rfl rfl ⟨rfl, rfl, rfl, rfl, rfl⟩ rfl rfl rfl rfl rfl (by kernel_rfl) Try.func5 (by kernel_rfl)
    (of_decide_eq_true (by kernel_rfl)) (by unfold Func.isWrapper; first | (rw [if_pos (by decide +kernel)]; kernel_rfl) | (rw [if_neg (by decide +kernel)]; exact ⟨rfl, rfl⟩))
    (fun os started H enc _ => lifted os started H enc)
#print axioms proved
end Go.Proofs.Yticfabhcfdmbjaa.modelApart
