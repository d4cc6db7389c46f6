/-
  The parameters with calls told. It proves nothing of the program by itself.
-/
import Derived.Test.YticbhhakdmoahaaGreatEvQ4C0
import Derived.Test.YticbhhakdmoahaaGreatEvQ4C1
import Derived.Test.YticbhhakdmoahaaGreatEvQ4C2
import Derived.Test.YticbhhakdmoahaaGreatEvQ4C3
import Derived.Test.YticbhhakdmoahaaGreatEvQ4C4
import Derived.Test.YticbhhakdmoahaaGreatEvQ4C5
set_option linter.unusedVariables false
set_option linter.unusedSimpArgs false
namespace Go.Proofs.YticbhhakdmoahaaGreat.EvQ4
open Go Go.Sl Go.Evl
set_option maxRecDepth 100000
set_option maxHeartbeats 4000000
noncomputable def cks17 : List Ck := [⟨k1460, k2829, k2833, k4180⟩]
theorem ok17 : ∀ c ∈ cks17, CkOk evPar 17 c := by
  unfold cks17
  exact List.forall_mem_cons.2 ⟨ck2, fun _ h => by cases h⟩
theorem orc17 : evPar.orc 17 = none := by kernel_rfl
theorem res17 (l : AV) (H : Hp) (K : HK) (m : Map) (w W0 : World) (Fr : Assn) (vs : List Value) (h1 : Inv1 m H) (h2 : Mem W0 m H Fr w) (h3 : relL m l vs) (h4 : ckF evPar 10000000 cks17 17 l H K = true) : CallRes evPar.P 17 vs w W0 Fr m K := ck_ok (p := evPar) (nn := 10000000) (cks := cks17) evPar_ok orc17 ok17 l H K m w W0 Fr vs h1 h2 h3 h4
noncomputable def cks18 : List Ck := [⟨k1460, k1752, k1764, k2806⟩]
theorem ok18 : ∀ c ∈ cks18, CkOk evPar 18 c := by
  unfold cks18
  exact List.forall_mem_cons.2 ⟨ck1, fun _ h => by cases h⟩
theorem orc18 : evPar.orc 18 = none := by kernel_rfl
theorem res18 (l : AV) (H : Hp) (K : HK) (m : Map) (w W0 : World) (Fr : Assn) (vs : List Value) (h1 : Inv1 m H) (h2 : Mem W0 m H Fr w) (h3 : relL m l vs) (h4 : ckF evPar 10000000 cks18 18 l H K = true) : CallRes evPar.P 18 vs w W0 Fr m K := ck_ok (p := evPar) (nn := 10000000) (cks := cks18) evPar_ok orc18 ok18 l H K m w W0 Fr vs h1 h2 h3 h4
noncomputable def cks19 : List Ck := [⟨k6046, k6059, k6062, k7783⟩, ⟨k10774, k10788, k10790, k12759⟩]
theorem ok19 : ∀ c ∈ cks19, CkOk evPar 19 c := by
  unfold cks19
  exact List.forall_mem_cons.2 ⟨ck4, List.forall_mem_cons.2 ⟨ck5, fun _ h => by cases h⟩⟩
theorem orc19 : evPar.orc 19 = none := by kernel_rfl
theorem res19 (l : AV) (H : Hp) (K : HK) (m : Map) (w W0 : World) (Fr : Assn) (vs : List Value) (h1 : Inv1 m H) (h2 : Mem W0 m H Fr w) (h3 : relL m l vs) (h4 : ckF evPar 10000000 cks19 19 l H K = true) : CallRes evPar.P 19 vs w W0 Fr m K := ck_ok (p := evPar) (nn := 10000000) (cks := cks19) evPar_ok orc19 ok19 l H K m w W0 Fr vs h1 h2 h3 h4
noncomputable def cks23 : List Ck := [⟨k16, k912, k30, k1448⟩]
theorem ok23 : ∀ c ∈ cks23, CkOk evPar 23 c := by
  unfold cks23
  exact List.forall_mem_cons.2 ⟨ck0, fun _ h => by cases h⟩
theorem orc23 : evPar.orc 23 = none := by kernel_rfl
theorem res23 (l : AV) (H : Hp) (K : HK) (m : Map) (w W0 : World) (Fr : Assn) (vs : List Value) (h1 : Inv1 m H) (h2 : Mem W0 m H Fr w) (h3 : relL m l vs) (h4 : ckF evPar 10000000 cks23 23 l H K = true) : CallRes evPar.P 23 vs w W0 Fr m K := ck_ok (p := evPar) (nn := 10000000) (cks := cks23) evPar_ok orc23 ok23 l H K m w W0 Fr vs h1 h2 h3 h4
noncomputable def cks43 : List Ck := [⟨k1460, k4193, k4197, k6043⟩]
theorem ok43 : ∀ c ∈ cks43, CkOk evPar 43 c := by
  unfold cks43
  exact List.forall_mem_cons.2 ⟨ck3, fun _ h => by cases h⟩
theorem orc43 : evPar.orc 43 = none := by kernel_rfl
theorem res43 (l : AV) (H : Hp) (K : HK) (m : Map) (w W0 : World) (Fr : Assn) (vs : List Value) (h1 : Inv1 m H) (h2 : Mem W0 m H Fr w) (h3 : relL m l vs) (h4 : ckF evPar 10000000 cks43 43 l H K = true) : CallRes evPar.P 43 vs w W0 Fr m K := ck_ok (p := evPar) (nn := 10000000) (cks := cks43) evPar_ok orc43 ok43 l H K m w W0 Fr vs h1 h2 h3 h4
noncomputable def evOrc2 (f : Nat) : Option CallF := (Bool.rec (motive := fun _ => Option CallF) (Bool.rec (motive := fun _ => Option CallF) (Bool.rec (motive := fun _ => Option CallF) (Bool.rec (motive := fun _ => Option CallF) (Bool.rec (motive := fun _ => Option CallF) (evPar.orc f) (some (ckF evPar 10000000 cks43)) (Nat.beq f 43)) (some (ckF evPar 10000000 cks23)) (Nat.beq f 23)) (some (ckF evPar 10000000 cks19)) (Nat.beq f 19)) (some (ckF evPar 10000000 cks18)) (Nat.beq f 18)) (some (ckF evPar 10000000 cks17)) (Nat.beq f 17))
noncomputable def evPar2 : Par := ⟨evPar.P, evPar.msk, evOrc2, evPar.tab⟩
theorem evPar2_ok : ParOk evPar2 where
  name f fn hf := by
    unfold evPar2 at hf
    exact evPar_ok.name f fn hf
  mixed := by
    unfold evPar2
    exact evPar_ok.mixed
  tabs f fn c hf hb := by
    unfold evPar2 at hf ⊢
    dsimp only at hf ⊢
    exact evPar_ok.tabs f fn c hf hb
  orc f F h := by
    have h : evOrc2 f = some F := h
    unfold evOrc2 at h
    cases hb0 : Nat.beq f 17 with
    | true =>
      simp only [hb0] at h
      have hF := (Option.some.inj h).symm
      subst hF
      have := Nat.eq_of_beq_eq_true hb0
      subst this
      exact res17
    | false =>
      cases hb1 : Nat.beq f 18 with
      | true =>
        simp only [hb0, hb1] at h
        have hF := (Option.some.inj h).symm
        subst hF
        have := Nat.eq_of_beq_eq_true hb1
        subst this
        exact res18
      | false =>
        cases hb2 : Nat.beq f 19 with
        | true =>
          simp only [hb0, hb1, hb2] at h
          have hF := (Option.some.inj h).symm
          subst hF
          have := Nat.eq_of_beq_eq_true hb2
          subst this
          exact res19
        | false =>
          cases hb3 : Nat.beq f 23 with
          | true =>
            simp only [hb0, hb1, hb2, hb3] at h
            have hF := (Option.some.inj h).symm
            subst hF
            have := Nat.eq_of_beq_eq_true hb3
            subst this
            exact res23
          | false =>
            cases hb4 : Nat.beq f 43 with
            | true =>
              simp only [hb0, hb1, hb2, hb3, hb4] at h
              have hF := (Option.some.inj h).symm
              subst hF
              have := Nat.eq_of_beq_eq_true hb4
              subst this
              exact res43
            | false =>
              simp only [hb0, hb1, hb2, hb3, hb4] at h
              exact evPar_ok.orc f F h

end Go.Proofs.YticbhhakdmoahaaGreat.EvQ4
