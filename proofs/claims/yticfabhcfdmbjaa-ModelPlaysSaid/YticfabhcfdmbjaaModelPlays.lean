/-
  ModelPlays answers true at every size, every script and every number, and leaves all as it was.
-/
import Derived.Test.YticfabhcfdmbjaaRows
import Derived.Test.YticfabhcfdmbjaaYtCmd
import Derived.Test.YticfabhcfdmbjaaYtM12
import Derived.SizedLaws
namespace Go.Proofs.Yticfabhcfdmbjaa.modelPlays
open Go Go.ChangeShapes Go.WideShapes Go.ChangeAt Go.RowKit Go.Sl Go.Mo
set_option linter.unusedVariables false
theorem ModelPlays_spec (w0 : World) (size at_ : Int) (q : Option Addr) (scap : Nat) (cs : List Cmd) (hq : 0 < cs.length → ∃ b off, q = some ⟨b, off, none⟩ ∧ ∀ i (hi : i < cs.length), At w0 b (off + i * 4) cs[i].cells) (hd : ∀ c ∈ cs, c.data.length ≤ 140737488351232) :
    Ctr Try.prog 4 [.int .i64 size, .slice q cs.length scap, .int .i64 at_] [old w0] (fun v Ps => v = .bool true ∧ Ps = [old w0]) := by
  by_cases h1 : size < 1 ∨ 512 < size
  · exact ModelPlays_bad w0 size at_ q scap cs h1
  by_cases h2 : 40 < cs.length ∨ 64 < size
  · exact ModelPlays_skip w0 size at_ q scap cs (by omega) h2
  obtain ⟨sz, rfl⟩ := Int.eq_ofNat_of_zero_le (show 0 ≤ size by omega)
  exact ModelPlays_run w0 sz at_ q scap cs (by omega) (by omega) hq hd
theorem own : ownKnob Try.prog.godebug = none := by kernel_rfl
theorem laidOut : laidOutB Try.prog = true := by kernel_rfl
set_option maxRecDepth 100000 in
theorem lifted (os : Os) (started : os.Started) (H : Type) (enc : TypeId × Value → H) :
    ReturnsInHanded {} Try.checked os 4 .any (Rows.modelPlaysSpec.pre6 enc Try.prog Try.f4 Rows.modelPlaysRow.domain false) (Rows.modelPlaysSpec.post enc Try.prog Try.f4 false true false false) := by
  refine returnsInHanded_of_change_sized (C := Try.checked) own started (by kernel_rfl) Try.func4
    (ChangeSpec.witness6 (enc := enc) (C := Try.checked) false ⟨#[], #[.int .i64 0, .slice none 0 0, .int .i64 0], []⟩ 8 (by kernel_rfl) (by kernel_rfl) (by kernel_rfl) (by kernel_rfl)) ?_
  intro W base args ds gs before hval0 hW hcnd hsz _
  have hval : ∀ (j : Nat) t v, Try.f4.params[j]? = some t → args[j]? = some v → Value.okWide Try.prog W .any base t v := hval0
  have hW' := hW
  obtain ⟨p, q, hA0, hV, rfl, hfz, hnd⟩ := hW
  have hA : DataW.TrodAll enc Try.prog W 0 (fun _ => true) true Try.f4.params.toList args.toList ds p := hA0
  rw [Try.params4] at hA hval
  obtain ⟨v0, vs0, d0, ds0, p0, q0, hargs, rfl, rfl, h0, r0⟩ := trodAll_cons hA
  obtain ⟨v1, vs1, d1, ds1, p1, q1, rfl, rfl, rfl, h1, r1⟩ := trodAll_cons r0
  obtain ⟨v2, vs2, d2, ds2, p2, q2, rfl, rfl, rfl, h2, r2⟩ := trodAll_cons r1
  obtain ⟨rfl, rfl, rfl⟩ := trodAll_nil r2
  obtain rfl : args = #[v0, v1, v2] := by cases args; simp_all
  obtain ⟨rfl, rfl⟩ := trodVars_none hV
  obtain ⟨a0, rfl, _, _, _⟩ := open_int Try.underlying3 (hval 0 3 v0 rfl rfl) h0
  obtain ⟨a2, rfl, _, _, _⟩ := open_int Try.underlying3 (hval 2 3 v2 rfl rfl) h2
  obtain ⟨qq, scap, cs, rfl, hq, hd⟩ := cmds_of (okWide_slice Try.underlying31 (hval 1 31 v1 rfl rfl)) h1 (fun n hn => by
    have h5 := List.all_eq_true.1 hsz n (DataW.weights_mem_each (j := 1) (t := 31) (d := d1) (by rw [show Try.checked.prog = Try.prog from rfl, Try.params4]; rfl) rfl n hn)
    exact of_decide_eq_true h5)
  refine (Ctr.calls1 W (ModelPlays_spec W a0 a2 qq scap cs hq hd)).mono fun e W' ⟨he, hb⟩ => ?_
  subst he
  exact ⟨_, rfl, post_law hW' laidOut (by kernel_rfl) rfl rfl Try.underlying4 rfl rfl rfl hb⟩
theorem proved : Rows.ModelPlaysSaid :=
  OpenClaim.holds_of_wide 4 Try.f4 rfl rfl rfl rfl rfl rfl rfl ⟨rfl, rfl, rfl, rfl, rfl⟩ rfl rfl rfl rfl rfl (by kernel_rfl) Try.func4 (by kernel_rfl)
    (of_decide_eq_true (by kernel_rfl)) (by unfold Func.isWrapper; first | (rw [if_pos (by decide +kernel)]; kernel_rfl) | (rw [if_neg (by decide +kernel)]; exact ⟨rfl, rfl⟩))
    (fun os started H enc _ => lifted os started H enc)
#print axioms proved
end Go.Proofs.Yticfabhcfdmbjaa.modelPlays
