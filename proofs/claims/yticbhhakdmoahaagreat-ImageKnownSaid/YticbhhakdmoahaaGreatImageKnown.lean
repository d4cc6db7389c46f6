/-
  ImageKnown answers true, and leaves all as it was.
-/
import Derived.Test.YticbhhakdmoahaaGreatRows
import Derived.Test.YticbhhakdmoahaaGreatSl10
import Derived.Test.YticbhhakdmoahaaGreatEvI6C0
import Derived.Test.YticbhhakdmoahaaGreatEvI6C1
import Derived.KernelRfl
set_option linter.unusedSimpArgs false
namespace Go.Proofs.YticbhhakdmoahaaGreat.EvI6
open Go Go.Sl Go.Evl
set_option maxRecDepth 100000
theorem shape : code = .seq (sL code) (.seq (sL t1) (.seq (sL t2) (.seq (sL t3) (.seq (sL t4) (.seq (.seq (sL (sL t5)) (.block 0 (.loop bd))) (sR t5)))))) := by kernel_rfl
theorem body : fnB EvQ6.evPar2.P 6 = some (code, 72, [.tmp 0]) := by kernel_rfl
theorem orc6 : EvQ6.evPar2.orc 6 = none := by kernel_rfl
theorem ahead : (fun (K Kp : CK) (Z : En → Hp → Bool) => thenK EvQ6.evPar2 9999999 (sL code) mk 72 .nil h0 K fun E H => thenK EvQ6.evPar2 9999998 (sL t1) mk 72 E H K fun E H => thenK EvQ6.evPar2 9999997 (sL t2) mk 72 E H K fun E H => thenK EvQ6.evPar2 9999996 (sL t3) mk 72 E H K fun E H => thenK EvQ6.evPar2 9999995 (sL t4) mk 72 E H K fun E H =>
      thenK EvQ6.evPar2 9999993 (sL (sL t5)) mk 72 E H Kp Z) = fun _ _ Z => Z en0 (hp r0) := by kernel_rfl
/-- What the call gives back. -/
noncomputable def fin (K : HK) : CK := fun x E H => xCase x (resL [.tmp 0] EvQ6.evPar2.P E H fun l => tupK l fun v => K v H) (fun _ => false) (resL [.tmp 0] EvQ6.evPar2.P E H fun l => tupK l fun v => K v H)
noncomputable def KR : CK := fin fun v _ => asB v fun b => b
noncomputable def KP : CK := seqK EvQ6.evPar2 9999994 (sR t5) mk 72 KR
noncomputable def KL : CK := blockK 0 KP
theorem behind : evC EvQ6.evPar2 9978232 (.loop bd) mk 72 (en 21760) (hp (row 21760)) KL = true := by kernel_rfl
theorem st0 : evC EvQ6.evPar2 9999992 (.loop bd) mk 72 en0 (hp r0) KL = evC EvQ6.evPar2 9998904 (.loop bd) mk 72 (en 1088) (hp (row 1088)) KL := evC_rounds (k := 1088) (by kernel_rfl) ch0 KL
theorem st1 : evC EvQ6.evPar2 9998904 (.loop bd) mk 72 (en 1088) (hp (row 1088)) KL = evC EvQ6.evPar2 9997816 (.loop bd) mk 72 (en 2176) (hp (row 2176)) KL := evC_rounds (k := 1088) (by kernel_rfl) ch1 KL
theorem st2 : evC EvQ6.evPar2 9997816 (.loop bd) mk 72 (en 2176) (hp (row 2176)) KL = evC EvQ6.evPar2 9996728 (.loop bd) mk 72 (en 3264) (hp (row 3264)) KL := evC_rounds (k := 1088) (by kernel_rfl) ch2 KL
theorem st3 : evC EvQ6.evPar2 9996728 (.loop bd) mk 72 (en 3264) (hp (row 3264)) KL = evC EvQ6.evPar2 9995640 (.loop bd) mk 72 (en 4352) (hp (row 4352)) KL := evC_rounds (k := 1088) (by kernel_rfl) ch3 KL
theorem st4 : evC EvQ6.evPar2 9995640 (.loop bd) mk 72 (en 4352) (hp (row 4352)) KL = evC EvQ6.evPar2 9994552 (.loop bd) mk 72 (en 5440) (hp (row 5440)) KL := evC_rounds (k := 1088) (by kernel_rfl) ch4 KL
theorem st5 : evC EvQ6.evPar2 9994552 (.loop bd) mk 72 (en 5440) (hp (row 5440)) KL = evC EvQ6.evPar2 9993464 (.loop bd) mk 72 (en 6528) (hp (row 6528)) KL := evC_rounds (k := 1088) (by kernel_rfl) ch5 KL
theorem st6 : evC EvQ6.evPar2 9993464 (.loop bd) mk 72 (en 6528) (hp (row 6528)) KL = evC EvQ6.evPar2 9992376 (.loop bd) mk 72 (en 7616) (hp (row 7616)) KL := evC_rounds (k := 1088) (by kernel_rfl) ch6 KL
theorem st7 : evC EvQ6.evPar2 9992376 (.loop bd) mk 72 (en 7616) (hp (row 7616)) KL = evC EvQ6.evPar2 9991288 (.loop bd) mk 72 (en 8704) (hp (row 8704)) KL := evC_rounds (k := 1088) (by kernel_rfl) ch7 KL
theorem st8 : evC EvQ6.evPar2 9991288 (.loop bd) mk 72 (en 8704) (hp (row 8704)) KL = evC EvQ6.evPar2 9990200 (.loop bd) mk 72 (en 9792) (hp (row 9792)) KL := evC_rounds (k := 1088) (by kernel_rfl) ch8 KL
theorem st9 : evC EvQ6.evPar2 9990200 (.loop bd) mk 72 (en 9792) (hp (row 9792)) KL = evC EvQ6.evPar2 9989112 (.loop bd) mk 72 (en 10880) (hp (row 10880)) KL := evC_rounds (k := 1088) (by kernel_rfl) ch9 KL
theorem st10 : evC EvQ6.evPar2 9989112 (.loop bd) mk 72 (en 10880) (hp (row 10880)) KL = evC EvQ6.evPar2 9988024 (.loop bd) mk 72 (en 11968) (hp (row 11968)) KL := evC_rounds (k := 1088) (by kernel_rfl) ch10 KL
theorem st11 : evC EvQ6.evPar2 9988024 (.loop bd) mk 72 (en 11968) (hp (row 11968)) KL = evC EvQ6.evPar2 9986936 (.loop bd) mk 72 (en 13056) (hp (row 13056)) KL := evC_rounds (k := 1088) (by kernel_rfl) ch11 KL
theorem st12 : evC EvQ6.evPar2 9986936 (.loop bd) mk 72 (en 13056) (hp (row 13056)) KL = evC EvQ6.evPar2 9985848 (.loop bd) mk 72 (en 14144) (hp (row 14144)) KL := evC_rounds (k := 1088) (by kernel_rfl) ch12 KL
theorem st13 : evC EvQ6.evPar2 9985848 (.loop bd) mk 72 (en 14144) (hp (row 14144)) KL = evC EvQ6.evPar2 9984760 (.loop bd) mk 72 (en 15232) (hp (row 15232)) KL := evC_rounds (k := 1088) (by kernel_rfl) ch13 KL
theorem st14 : evC EvQ6.evPar2 9984760 (.loop bd) mk 72 (en 15232) (hp (row 15232)) KL = evC EvQ6.evPar2 9983672 (.loop bd) mk 72 (en 16320) (hp (row 16320)) KL := evC_rounds (k := 1088) (by kernel_rfl) ch14 KL
theorem st15 : evC EvQ6.evPar2 9983672 (.loop bd) mk 72 (en 16320) (hp (row 16320)) KL = evC EvQ6.evPar2 9982584 (.loop bd) mk 72 (en 17408) (hp (row 17408)) KL := evC_rounds (k := 1088) (by kernel_rfl) ch15 KL
theorem st16 : evC EvQ6.evPar2 9982584 (.loop bd) mk 72 (en 17408) (hp (row 17408)) KL = evC EvQ6.evPar2 9981496 (.loop bd) mk 72 (en 18496) (hp (row 18496)) KL := evC_rounds (k := 1088) (by kernel_rfl) ch16 KL
theorem st17 : evC EvQ6.evPar2 9981496 (.loop bd) mk 72 (en 18496) (hp (row 18496)) KL = evC EvQ6.evPar2 9980408 (.loop bd) mk 72 (en 19584) (hp (row 19584)) KL := evC_rounds (k := 1088) (by kernel_rfl) ch17 KL
theorem st18 : evC EvQ6.evPar2 9980408 (.loop bd) mk 72 (en 19584) (hp (row 19584)) KL = evC EvQ6.evPar2 9979320 (.loop bd) mk 72 (en 20672) (hp (row 20672)) KL := evC_rounds (k := 1088) (by kernel_rfl) ch18 KL
theorem st19 : evC EvQ6.evPar2 9979320 (.loop bd) mk 72 (en 20672) (hp (row 20672)) KL = evC EvQ6.evPar2 9978232 (.loop bd) mk 72 (en 21760) (hp (row 21760)) KL := evC_rounds (k := 1088) (by kernel_rfl) ch19 KL
theorem rounds : evC EvQ6.evPar2 9999992 (.loop bd) mk 72 en0 (hp r0) KL = true := st0.trans (st1.trans (st2.trans (st3.trans (st4.trans (st5.trans (st6.trans (st7.trans (st8.trans (st9.trans (st10.trans (st11.trans (st12.trans (st13.trans (st14.trans (st15.trans (st16.trans (st17.trans (st18.trans (st19.trans (behind))))))))))))))))))))
theorem runs : callF (evC EvQ6.evPar2 (9999992 + 8)) EvQ6.evPar2.P EvQ6.evPar2.msk EvQ6.evPar2.orc 6 .nil h0 (fun v _ => asB v fun b => b) = true := by
  rw [callF_body orc6 body, shape]
  refine evC_five.trans ?_
  exact (congrFun (congrFun (congrFun ahead KR) KP) (fun E H => evC EvQ6.evPar2 9999992 (.loop bd) mk 72 E H KL)).trans rounds
end Go.Proofs.YticbhhakdmoahaaGreat.EvI6
namespace Go.Proofs.YticbhhakdmoahaaGreat.imageKnown
open Go Go.ChangeShapes Go.WideShapes Go.ChangeAt Go.RowKit Go.Sl Go.Evl
set_option linter.unusedVariables false
theorem spec : Ctr Tryz.prog 6 [] [] (fun v Ps => v = .bool true ∧ Ps = []) :=
  closed_true (p := EvQ6.evPar2) EvQ6.evPar2_ok EvI6.runs ⟨Tryz.f6, Tryz.func6, rfl, rfl⟩
theorem own : ownKnob Tryz.prog.godebug = none := by kernel_rfl
theorem laidOut : laidOutB Tryz.prog = true := by kernel_rfl
set_option maxRecDepth 100000 in
theorem lifted (os : Os) (started : os.Started) (H : Type) (enc : TypeId × Value → H) :
    ReturnsInHanded {} Tryz.checked os 6 .any (Rows.imageKnownSpec.pre6 enc Tryz.prog Tryz.f6 Rows.imageKnownRow.domain false) (Rows.imageKnownSpec.post enc Tryz.prog Tryz.f6 false true false false) := by
  refine returnsInHanded_of_change (C := Tryz.checked) own started (by kernel_rfl) Tryz.func6
    (ChangeSpec.witness6 (enc := enc) (C := Tryz.checked) false ⟨#[], #[], []⟩ 8 (by kernel_rfl) (by kernel_rfl) (by kernel_rfl) (by kernel_rfl)) ?_
  intro W base args ds gs before hval0 hW hcnd _
  have hval : ∀ (j : Nat) t v, Tryz.f6.params[j]? = some t → args[j]? = some v → Value.okWide Tryz.prog W .any base t v := hval0
  have hW' := hW
  obtain ⟨p, q, hA0, hV, rfl, hfz, hnd⟩ := hW
  have hA : DataW.TrodAll enc Tryz.prog W 0 (fun _ => true) true Tryz.f6.params.toList args.toList ds p := hA0
  rw [Tryz.params6] at hA hval
  obtain ⟨hx, rfl, rfl⟩ := trodAll_nil hA
  obtain rfl : args = #[] := by cases args; simp_all
  refine (Ctr.calls0 W spec).mono fun e W' ⟨he, hb⟩ => ?_
  subst he
  obtain ⟨rfl, rfl⟩ := trodVars_none hV
  exact ⟨_, rfl, post_law hW' laidOut (by kernel_rfl) rfl rfl Tryz.underlying4 rfl rfl rfl hb⟩
theorem proved : Rows.ImageKnownSaid :=
  OpenClaim.holds_of_wide 6 Tryz.f6 rfl rfl rfl rfl rfl rfl rfl ⟨rfl, rfl, rfl, rfl, rfl⟩ rfl rfl rfl rfl rfl (by kernel_rfl) Tryz.func6 (by kernel_rfl)
    (of_decide_eq_true (by kernel_rfl)) (by unfold Func.isWrapper; first | (rw [if_pos (by decide +kernel)]; kernel_rfl) | (rw [if_neg (by decide +kernel)]; exact ⟨rfl, rfl⟩))
    (fun os started H enc _ => lifted os started H enc)
#print axioms proved
end Go.Proofs.YticbhhakdmoahaaGreat.imageKnown
