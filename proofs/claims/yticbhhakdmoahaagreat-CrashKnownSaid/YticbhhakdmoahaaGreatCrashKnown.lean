/-
  CrashKnown answers true, and leaves all as it was.
-/
import Derived.Test.YticbhhakdmoahaaGreatRows
import Derived.Test.YticbhhakdmoahaaGreatSl10
import Derived.Test.YticbhhakdmoahaaGreatEvQ7G0
import Derived.Test.YticbhhakdmoahaaGreatEvQ7G1
import Derived.Test.YticbhhakdmoahaaGreatEvQ7G2
import Derived.Test.YticbhhakdmoahaaGreatEvQ7G3
import Derived.Test.YticbhhakdmoahaaGreatEvQ7G4
import Derived.Test.YticbhhakdmoahaaGreatEvQ7G5
import Derived.Test.YticbhhakdmoahaaGreatEvQ7G6
import Derived.Test.YticbhhakdmoahaaGreatEvQ7G7
import Derived.Test.YticbhhakdmoahaaGreatEvQ7G8
import Derived.Test.YticbhhakdmoahaaGreatEvQ7G9
set_option linter.unusedSimpArgs false
namespace Go.Proofs.YticbhhakdmoahaaGreat.EvQ7
open Go Go.Sl Go.Evl
set_option maxRecDepth 100000
set_option maxHeartbeats 4000000
noncomputable def cks84 : List Ck := [⟨k42, k124, k126, k128⟩, ⟨k132, k164, k126, k166⟩, ⟨k170, k200, k126, k206⟩, ⟨k212, k243, k126, k249⟩, ⟨k253, k283, k126, k289⟩, ⟨k296, k327, k126, k333⟩, ⟨k337, k372, k126, k378⟩, ⟨k382, k416, k126, k422⟩, ⟨k426, k457, k126, k463⟩, ⟨k470, k501, k126, k507⟩, ⟨k513, k545, k126, k551⟩, ⟨k557, k590, k126, k596⟩, ⟨k603, k636, k126, k642⟩, ⟨k649, k681, k126, k687⟩, ⟨k691, k725, k126, k731⟩, ⟨k738, k772, k126, k778⟩, ⟨k785, k817, k126, k823⟩, ⟨k830, k863, k126, k869⟩, ⟨k876, k914, k126, k918⟩, ⟨k922, k954, k126, k960⟩, ⟨k967, k1002, k126, k1008⟩, ⟨k1015, k1050, k126, k1056⟩, ⟨k1060, k1095, k126, k1101⟩, ⟨k1108, k1144, k126, k1150⟩, ⟨k1157, k1194, k126, k1200⟩, ⟨k1207, k1243, k126, k1249⟩, ⟨k1256, k1293, k126, k1299⟩, ⟨k1306, k1343, k126, k1349⟩, ⟨k1356, k1396, k126, k1402⟩, ⟨k1409, k1449, k126, k1455⟩, ⟨k1462, k1499, k126, k1505⟩, ⟨k1512, k1549, k126, k1555⟩, ⟨k1562, k1599, k126, k1605⟩, ⟨k1612, k1648, k126, k1654⟩, ⟨k1661, k1700, k1705, k1711⟩, ⟨k1718, k1838, k1705, k1845⟩, ⟨k1852, k1845, k1705, k1854⟩, ⟨k1207, k1854, k126, k1856⟩, ⟨k1863, k1856, k1705, k1865⟩, ⟨k1562, k1865, k126, k1867⟩, ⟨k1873, k1867, k1705, k1875⟩, ⟨k1661, k1875, k1705, k1877⟩, ⟨k1612, k1877, k126, k1879⟩, ⟨k1887, k1935, k1937, k1939⟩, ⟨k1942, k1982, k1937, k1984⟩, ⟨k1987, k2027, k1937, k2031⟩, ⟨k2034, k2081, k1937, k2085⟩, ⟨k2088, k2128, k1937, k2132⟩, ⟨k2135, k2174, k1937, k2178⟩, ⟨k2181, k2223, k1937, k2227⟩, ⟨k2230, k2273, k1937, k2277⟩, ⟨k2280, k2324, k1937, k2328⟩, ⟨k2331, k2370, k1937, k2374⟩, ⟨k2377, k2418, k1937, k2422⟩, ⟨k2425, k2468, k1937, k2472⟩, ⟨k2475, k2515, k1937, k2519⟩, ⟨k2522, k2567, k1937, k2571⟩, ⟨k2574, k2617, k1937, k2621⟩, ⟨k2624, k2664, k1937, k2668⟩, ⟨k2671, k2713, k1937, k2717⟩, ⟨k2720, k2762, k2764, k2768⟩, ⟨k2775, k2864, k2764, k2870⟩, ⟨k2877, k3015, k126, k3017⟩, ⟨k3020, k3017, k126, k3022⟩]
theorem ok84 : ∀ c ∈ cks84, CkOk2 evPar 84 c := by
  unfold cks84
  exact List.forall_mem_cons.2 ⟨ck0, List.forall_mem_cons.2 ⟨ck1, List.forall_mem_cons.2 ⟨ck2, List.forall_mem_cons.2 ⟨ck3, List.forall_mem_cons.2 ⟨ck4, List.forall_mem_cons.2 ⟨ck5, List.forall_mem_cons.2 ⟨ck6, List.forall_mem_cons.2 ⟨ck7, List.forall_mem_cons.2 ⟨ck8, List.forall_mem_cons.2 ⟨ck9, List.forall_mem_cons.2 ⟨ck10, List.forall_mem_cons.2 ⟨ck11, List.forall_mem_cons.2 ⟨ck12, List.forall_mem_cons.2 ⟨ck13, List.forall_mem_cons.2 ⟨ck14, List.forall_mem_cons.2 ⟨ck15, List.forall_mem_cons.2 ⟨ck16, List.forall_mem_cons.2 ⟨ck17, List.forall_mem_cons.2 ⟨ck18, List.forall_mem_cons.2 ⟨ck19, List.forall_mem_cons.2 ⟨ck20, List.forall_mem_cons.2 ⟨ck21, List.forall_mem_cons.2 ⟨ck22, List.forall_mem_cons.2 ⟨ck23, List.forall_mem_cons.2 ⟨ck24, List.forall_mem_cons.2 ⟨ck25, List.forall_mem_cons.2 ⟨ck26, List.forall_mem_cons.2 ⟨ck27, List.forall_mem_cons.2 ⟨ck28, List.forall_mem_cons.2 ⟨ck29, List.forall_mem_cons.2 ⟨ck30, List.forall_mem_cons.2 ⟨ck31, List.forall_mem_cons.2 ⟨ck32, List.forall_mem_cons.2 ⟨ck33, List.forall_mem_cons.2 ⟨ck34, List.forall_mem_cons.2 ⟨ck35, List.forall_mem_cons.2 ⟨ck36, List.forall_mem_cons.2 ⟨ck37, List.forall_mem_cons.2 ⟨ck38, List.forall_mem_cons.2 ⟨ck39, List.forall_mem_cons.2 ⟨ck40, List.forall_mem_cons.2 ⟨ck41, List.forall_mem_cons.2 ⟨ck42, List.forall_mem_cons.2 ⟨ck43, List.forall_mem_cons.2 ⟨ck44, List.forall_mem_cons.2 ⟨ck45, List.forall_mem_cons.2 ⟨ck46, List.forall_mem_cons.2 ⟨ck47, List.forall_mem_cons.2 ⟨ck48, List.forall_mem_cons.2 ⟨ck49, List.forall_mem_cons.2 ⟨ck50, List.forall_mem_cons.2 ⟨ck51, List.forall_mem_cons.2 ⟨ck52, List.forall_mem_cons.2 ⟨ck53, List.forall_mem_cons.2 ⟨ck54, List.forall_mem_cons.2 ⟨ck55, List.forall_mem_cons.2 ⟨ck56, List.forall_mem_cons.2 ⟨ck57, List.forall_mem_cons.2 ⟨ck58, List.forall_mem_cons.2 ⟨ck59, List.forall_mem_cons.2 ⟨ck60, List.forall_mem_cons.2 ⟨ck61, List.forall_mem_cons.2 ⟨ck62, List.forall_mem_cons.2 ⟨ck63, fun _ h => by cases h⟩⟩⟩⟩⟩⟩⟩⟩⟩⟩⟩⟩⟩⟩⟩⟩⟩⟩⟩⟩⟩⟩⟩⟩⟩⟩⟩⟩⟩⟩⟩⟩⟩⟩⟩⟩⟩⟩⟩⟩⟩⟩⟩⟩⟩⟩⟩⟩⟩⟩⟩⟩⟩⟩⟩⟩⟩⟩⟩⟩⟩⟩⟩⟩
theorem orc84 : evPar.orc 84 = none := by kernel_rfl
theorem res84 (l : AV) (H : Hp) (K : HK) (m : Map) (w W0 : World) (Fr : Assn) (vs : List Value) (h1 : Inv1 m H) (h2 : Mem W0 m H Fr w) (h3 : relL m l vs) (h4 : ckF evPar 10000000 cks84 84 l H K = true) : CallRes evPar.P 84 vs w W0 Fr m K := ck_ok2 (p := evPar) (nn := 10000000) (cks := cks84) evPar_ok orc84 ok84 l H K m w W0 Fr vs h1 h2 h3 h4
noncomputable def evOrc2 (f : Nat) : Option CallF := (Bool.rec (motive := fun _ => Option CallF) (evPar.orc f) (some (ckF evPar 10000000 cks84)) (Nat.beq f 84))
noncomputable def evPar2 : Par := ⟨evPar.P, evPar.msk, evOrc2, evPar.tab⟩
theorem evPar2_ok : ParOk evPar2 where
  name f fn hf := by
    unfold evPar2 at hf
    exact evPar_ok.name f fn hf
  mixed := by
    unfold evPar2
    exact evPar_ok.mixed
  tabs f fn c hf hb := by
    unfold evPar2 at hf ⊢
    dsimp only at hf ⊢
    exact evPar_ok.tabs f fn c hf hb
  orc f F h := by
    have h : evOrc2 f = some F := h
    unfold evOrc2 at h
    cases hb0 : Nat.beq f 84 with
    | true =>
      simp only [hb0] at h
      have hF := (Option.some.inj h).symm
      subst hF
      have := Nat.eq_of_beq_eq_true hb0
      subst this
      exact res84
    | false =>
      simp only [hb0] at h
      exact evPar_ok.orc f F h

end Go.Proofs.YticbhhakdmoahaaGreat.EvQ7
namespace Go.Proofs.YticbhhakdmoahaaGreat.crashKnown
open Go Go.ChangeShapes Go.WideShapes Go.ChangeAt Go.RowKit Go.Sl Go.Evl
set_option linter.unusedVariables false
theorem runs : callF (evC EvQ7.evPar2 10000000) Tryz.prog EvQ7.evPar2.msk EvQ7.evPar2.orc 7 .nil h0 (fun v _ => asB v fun b => b) = true := by kernel_rfl
theorem spec : Ctr Tryz.prog 7 [] [] (fun v Ps => v = .bool true ∧ Ps = []) :=
  closed_true (p := EvQ7.evPar2) EvQ7.evPar2_ok runs ⟨Tryz.f7, Tryz.func7, rfl, rfl⟩
theorem own : ownKnob Tryz.prog.godebug = none := by kernel_rfl
theorem laidOut : laidOutB Tryz.prog = true := by kernel_rfl
set_option maxRecDepth 100000 in
theorem lifted (os : Os) (started : os.Started) (H : Type) (enc : TypeId × Value → H) :
    ReturnsInHanded {} Tryz.checked os 7 .any (Rows.crashKnownSpec.pre6 enc Tryz.prog Tryz.f7 Rows.crashKnownRow.domain false) (Rows.crashKnownSpec.post enc Tryz.prog Tryz.f7 false true false false) := by
  refine returnsInHanded_of_change (C := Tryz.checked) own started (by kernel_rfl) Tryz.func7
    (ChangeSpec.witness6 (enc := enc) (C := Tryz.checked) false ⟨#[], #[], []⟩ 8 (by kernel_rfl) (by kernel_rfl) (by kernel_rfl) (by kernel_rfl)) ?_
  intro W base args ds gs before hval0 hW hcnd _
  have hval : ∀ (j : Nat) t v, Tryz.f7.params[j]? = some t → args[j]? = some v → Value.okWide Tryz.prog W .any base t v := hval0
  have hW' := hW
  obtain ⟨p, q, hA0, hV, rfl, hfz, hnd⟩ := hW
  have hA : DataW.TrodAll enc Tryz.prog W 0 (fun _ => true) true Tryz.f7.params.toList args.toList ds p := hA0
  rw [Tryz.params7] at hA hval
  obtain ⟨hx, rfl, rfl⟩ := trodAll_nil hA
  obtain rfl : args = #[] := by cases args; simp_all
  refine (Ctr.calls0 W spec).mono fun e W' ⟨he, hb⟩ => ?_
  subst he
  obtain ⟨rfl, rfl⟩ := trodVars_none hV
  exact ⟨_, rfl, post_law hW' laidOut (by kernel_rfl) rfl rfl Tryz.underlying4 rfl rfl rfl hb⟩
theorem proved : Rows.CrashKnownSaid :=
  OpenClaim.holds_of_wide 7 Tryz.f7 rfl rfl rfl rfl rfl rfl rfl ⟨rfl, rfl, rfl, rfl, rfl⟩ rfl rfl rfl rfl rfl (by kernel_rfl) Tryz.func7 (by kernel_rfl)
    (of_decide_eq_true (by kernel_rfl)) (by unfold Func.isWrapper; first | (rw [if_pos (by decide +kernel)]; kernel_rfl) | (rw [if_neg (by decide +kernel)]; exact ⟨rfl, rfl⟩))
    (fun os started H enc _ => lifted os started H enc)
#print axioms proved
end Go.Proofs.YticbhhakdmoahaaGreat.crashKnown
