/-
  LeafWhole answers true at any bytes and every number, and leaves all as it was.
-/
import Derived.Test.YticfabhcfdmbjaaRows
import Derived.Test.YticfabhcfdmbjaaYtByt
import Derived.Test.YticfabhcfdmbjaaYtL9
import Derived.Test.YticfabhcfdmbjaaEvS1
import Derived.SizedLaws
set_option linter.unusedVariables false
set_option linter.unusedSimpArgs false
namespace Go.Proofs.Yticfabhcfdmbjaa.leafWhole
open Go Go.ChangeShapes Go.WideShapes Go.ChangeAt Go.RowKit Go.Sl Go.Mo
theorem own : ownKnob Try.prog.godebug = none := by kernel_rfl
theorem laidOut : laidOutB Try.prog = true := by kernel_rfl
set_option maxRecDepth 100000 in
theorem lifted (os : Os) (started : os.Started) (H : Type) (enc : TypeId × Value → H) :
    ReturnsInHanded {} Try.checked os 9 .any (Rows.leafWholeSpec.pre6 enc Try.prog Try.f9 Rows.leafWholeRow.domain false) (Rows.leafWholeSpec.post enc Try.prog Try.f9 false true false false) := by
  refine returnsInHanded_of_change_sized (C := Try.checked) own started (by kernel_rfl) Try.func9
    (ChangeSpec.witness6 (enc := enc) (C := Try.checked) false ⟨#[], #[.slice none 0 0, .int .i64 0, .int .i64 0, .slice none 0 0], []⟩ 8 (by kernel_rfl) (by kernel_rfl) (by kernel_rfl) (by kernel_rfl)) ?_
  intro W base args ds gs before hval0 hW hcnd hsz _
  have hval : ∀ (j : Nat) t v, Try.f9.params[j]? = some t → args[j]? = some v → Value.okWide Try.prog W .any base t v := hval0
  have hW' := hW
  obtain ⟨p, q, hA0, hV, rfl, hfz, hnd⟩ := hW
  have hA : DataW.TrodAll enc Try.prog W 0 (fun _ => true) true Try.f9.params.toList args.toList ds p := hA0
  rw [Try.params9] at hA hval
  obtain ⟨v0, vs0, d0, ds0, p0, q0, hargs, rfl, rfl, h0, r0⟩ := trodAll_cons hA
  obtain ⟨v1, vs1, d1, ds1, p1, q1, rfl, rfl, rfl, h1, r1⟩ := trodAll_cons r0
  obtain ⟨v2, vs2, d2, ds2, p2, q2, rfl, rfl, rfl, h2, r2⟩ := trodAll_cons r1
  obtain ⟨v3, vs3, d3, ds3, p3, q3, rfl, rfl, rfl, h3, r3⟩ := trodAll_cons r2
  obtain ⟨rfl, rfl, rfl⟩ := trodAll_nil r3
  obtain rfl : args = #[v0, v1, v2, v3] := by cases args; simp_all
  obtain ⟨rfl, rfl⟩ := trodVars_none hV
  obtain ⟨a1, rfl, _, _, _⟩ := open_int Try.underlying3 (hval 1 3 v1 rfl rfl) h1
  obtain ⟨a2, rfl, _, _, _⟩ := open_int Try.underlying3 (hval 2 3 v2 rfl rfl) h2
  obtain ⟨qq, cap, l, rfl, hl, hB⟩ := bytes_of (okWide_slice Try.underlying49 (hval 0 49 v0 rfl rfl)) h0 (fun n hn => by
    have h5 := List.all_eq_true.1 hsz n (DataW.weights_mem_each (j := 0) (t := 49) (d := d0) (by rw [show Try.checked.prog = Try.prog from rfl, Try.params9]; rfl) rfl n hn)
    exact of_decide_eq_true h5)
  obtain ⟨qq2, cap2, m, rfl, hm, hC⟩ := bytes_of (okWide_slice Try.underlying49 (hval 3 49 v3 rfl rfl)) h3 (fun n hn => by
    have h5 := List.all_eq_true.1 hsz n (DataW.weights_mem_each (j := 3) (t := 49) (d := d3) (by rw [show Try.checked.prog = Try.prog from rfl, Try.params9]; rfl) rfl n hn)
    exact of_decide_eq_true h5)
  refine (Ctr.calls1 W (LeafWhole_walk awake12 a1 a2 (old W) _ _ l m hB hC)).mono fun e W' ⟨he, hb⟩ => ?_
  subst he
  exact ⟨_, rfl, post_law hW' laidOut (by kernel_rfl) rfl rfl Try.underlying4 rfl rfl rfl hb⟩
theorem proved : Rows.LeafWholeSaid :=
  OpenClaim.holds_of_wide 9 Try.f9 rfl rfl rfl rfl rfl rfl rfl ⟨rfl, rfl, rfl, rfl, rfl⟩ rfl rfl rfl rfl rfl (by kernel_rfl) Try.func9 (by kernel_rfl)
    (of_decide_eq_true (by kernel_rfl)) (by unfold Func.isWrapper; first | (rw [if_pos (by decide +kernel)]; kernel_rfl) | (rw [if_neg (by decide +kernel)]; exact ⟨rfl, rfl⟩))
    (fun os started H enc _ => lifted os started H enc)
#print axioms proved
end Go.Proofs.Yticfabhcfdmbjaa.leafWhole
