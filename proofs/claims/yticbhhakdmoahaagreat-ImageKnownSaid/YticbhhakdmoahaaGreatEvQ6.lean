/-
  The parameters with calls told. It proves nothing of the program by itself.
-/
import Derived.Test.YticbhhakdmoahaaGreatEvQ6G0
import Derived.Test.YticbhhakdmoahaaGreatEvQ6G1
import Derived.Test.YticbhhakdmoahaaGreatEvQ6G2
set_option linter.unusedVariables false
set_option linter.unusedSimpArgs false
namespace Go.Proofs.YticbhhakdmoahaaGreat.EvQ6
open Go Go.Sl Go.Evl
set_option maxRecDepth 100000
set_option maxHeartbeats 4000000
noncomputable def cks28 : List Ck := [⟨k28, k68, k71, k1274⟩, ⟨k4466, k4479, k4481, k5409⟩]
theorem ok28 : ∀ c ∈ cks28, CkOk2 evPar 28 c := by
  unfold cks28
  exact List.forall_mem_cons.2 ⟨ck0, List.forall_mem_cons.2 ⟨ck5, fun _ h => by cases h⟩⟩
theorem orc28 : evPar.orc 28 = none := by kernel_rfl
theorem res28 (l : AV) (H : Hp) (K : HK) (m : Map) (w W0 : World) (Fr : Assn) (vs : List Value) (h1 : Inv1 m H) (h2 : Mem W0 m H Fr w) (h3 : relL m l vs) (h4 : ckF evPar 10000000 cks28 28 l H K = true) : CallRes evPar.P 28 vs w W0 Fr m K := ck_ok2 (p := evPar) (nn := 10000000) (cks := cks28) evPar_ok orc28 ok28 l H K m w W0 Fr vs h1 h2 h3 h4
noncomputable def cks30 : List Ck := [⟨k1276, k1735, k1743, k2499⟩, ⟨k5411, k5425, k5430, k6596⟩, ⟨k6600, k6624, k6629, k6704⟩, ⟨k5411, k6740, k6743, k7877⟩]
theorem ok30 : ∀ c ∈ cks30, CkOk2 evPar 30 c := by
  unfold cks30
  exact List.forall_mem_cons.2 ⟨ck2, List.forall_mem_cons.2 ⟨ck6, List.forall_mem_cons.2 ⟨ck7, List.forall_mem_cons.2 ⟨ck8, fun _ h => by cases h⟩⟩⟩⟩
theorem orc30 : evPar.orc 30 = none := by kernel_rfl
theorem res30 (l : AV) (H : Hp) (K : HK) (m : Map) (w W0 : World) (Fr : Assn) (vs : List Value) (h1 : Inv1 m H) (h2 : Mem W0 m H Fr w) (h3 : relL m l vs) (h4 : ckF evPar 10000000 cks30 30 l H K = true) : CallRes evPar.P 30 vs w W0 Fr m K := ck_ok2 (p := evPar) (nn := 10000000) (cks := cks30) evPar_ok orc30 ok30 l H K m w W0 Fr vs h1 h2 h3 h4
noncomputable def cks31 : List Ck := [⟨k1276, k2522, k2527, k3522⟩, ⟨k5411, k7902, k7905, k9068⟩]
theorem ok31 : ∀ c ∈ cks31, CkOk2 evPar 31 c := by
  unfold cks31
  exact List.forall_mem_cons.2 ⟨ck3, List.forall_mem_cons.2 ⟨ck9, fun _ h => by cases h⟩⟩
theorem orc31 : evPar.orc 31 = none := by kernel_rfl
theorem res31 (l : AV) (H : Hp) (K : HK) (m : Map) (w W0 : World) (Fr : Assn) (vs : List Value) (h1 : Inv1 m H) (h2 : Mem W0 m H Fr w) (h3 : relL m l vs) (h4 : ckF evPar 10000000 cks31 31 l H K = true) : CallRes evPar.P 31 vs w W0 Fr m K := ck_ok2 (p := evPar) (nn := 10000000) (cks := cks31) evPar_ok orc31 ok31 l H K m w W0 Fr vs h1 h2 h3 h4
noncomputable def cks50 : List Ck := [⟨k1276, k1287, k1295, k1723⟩]
theorem ok50 : ∀ c ∈ cks50, CkOk2 evPar 50 c := by
  unfold cks50
  exact List.forall_mem_cons.2 ⟨ck1, fun _ h => by cases h⟩
theorem orc50 : evPar.orc 50 = none := by kernel_rfl
theorem res50 (l : AV) (H : Hp) (K : HK) (m : Map) (w W0 : World) (Fr : Assn) (vs : List Value) (h1 : Inv1 m H) (h2 : Mem W0 m H Fr w) (h3 : relL m l vs) (h4 : ckF evPar 10000000 cks50 50 l H K = true) : CallRes evPar.P 50 vs w W0 Fr m K := ck_ok2 (p := evPar) (nn := 10000000) (cks := cks50) evPar_ok orc50 ok50 l H K m w W0 Fr vs h1 h2 h3 h4
noncomputable def cks76 : List Ck := [⟨k1276, k3536, k3540, k4464⟩]
theorem ok76 : ∀ c ∈ cks76, CkOk2 evPar 76 c := by
  unfold cks76
  exact List.forall_mem_cons.2 ⟨ck4, fun _ h => by cases h⟩
theorem orc76 : evPar.orc 76 = none := by kernel_rfl
theorem res76 (l : AV) (H : Hp) (K : HK) (m : Map) (w W0 : World) (Fr : Assn) (vs : List Value) (h1 : Inv1 m H) (h2 : Mem W0 m H Fr w) (h3 : relL m l vs) (h4 : ckF evPar 10000000 cks76 76 l H K = true) : CallRes evPar.P 76 vs w W0 Fr m K := ck_ok2 (p := evPar) (nn := 10000000) (cks := cks76) evPar_ok orc76 ok76 l H K m w W0 Fr vs h1 h2 h3 h4
noncomputable def evOrc2 (f : Nat) : Option CallF := (Bool.rec (motive := fun _ => Option CallF) (Bool.rec (motive := fun _ => Option CallF) (Bool.rec (motive := fun _ => Option CallF) (Bool.rec (motive := fun _ => Option CallF) (Bool.rec (motive := fun _ => Option CallF) (evPar.orc f) (some (ckF evPar 10000000 cks76)) (Nat.beq f 76)) (some (ckF evPar 10000000 cks50)) (Nat.beq f 50)) (some (ckF evPar 10000000 cks31)) (Nat.beq f 31)) (some (ckF evPar 10000000 cks30)) (Nat.beq f 30)) (some (ckF evPar 10000000 cks28)) (Nat.beq f 28))
noncomputable def evPar2 : Par := ⟨evPar.P, evPar.msk, evOrc2, evPar.tab⟩
theorem evPar2_ok : ParOk evPar2 where
  name f fn hf := by
    unfold evPar2 at hf
    exact evPar_ok.name f fn hf
  mixed := by
    unfold evPar2
    exact evPar_ok.mixed
  tabs f fn c hf hb := by
    unfold evPar2 at hf ⊢
    dsimp only at hf ⊢
    exact evPar_ok.tabs f fn c hf hb
  orc f F h := by
    have h : evOrc2 f = some F := h
    unfold evOrc2 at h
    cases hb0 : Nat.beq f 28 with
    | true =>
      simp only [hb0] at h
      have hF := (Option.some.inj h).symm
      subst hF
      have := Nat.eq_of_beq_eq_true hb0
      subst this
      exact res28
    | false =>
      cases hb1 : Nat.beq f 30 with
      | true =>
        simp only [hb0, hb1] at h
        have hF := (Option.some.inj h).symm
        subst hF
        have := Nat.eq_of_beq_eq_true hb1
        subst this
        exact res30
      | false =>
        cases hb2 : Nat.beq f 31 with
        | true =>
          simp only [hb0, hb1, hb2] at h
          have hF := (Option.some.inj h).symm
          subst hF
          have := Nat.eq_of_beq_eq_true hb2
          subst this
          exact res31
        | false =>
          cases hb3 : Nat.beq f 50 with
          | true =>
            simp only [hb0, hb1, hb2, hb3] at h
            have hF := (Option.some.inj h).symm
            subst hF
            have := Nat.eq_of_beq_eq_true hb3
            subst this
            exact res50
          | false =>
            cases hb4 : Nat.beq f 76 with
            | true =>
              simp only [hb0, hb1, hb2, hb3, hb4] at h
              have hF := (Option.some.inj h).symm
              subst hF
              have := Nat.eq_of_beq_eq_true hb4
              subst this
              exact res76
            | false =>
              simp only [hb0, hb1, hb2, hb3, hb4] at h
              exact evPar_ok.orc f F h

end Go.Proofs.YticbhhakdmoahaaGreat.EvQ6
