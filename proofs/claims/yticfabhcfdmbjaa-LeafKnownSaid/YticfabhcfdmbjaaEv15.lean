/-
  The evaluator: code and calls; what it comes to holds in every world. It proves nothing of the program by itself.
-/
import Derived.Test.YticfabhcfdmbjaaEv14b
import Derived.Scope
set_option linter.unusedVariables false
set_option linter.unusedSimpArgs false
namespace Go.Evl
open Go Go.Sl
/-! ### Which temporaries outlive a region -/
noncomputable def keepB (mask t : Nat) : Bool := Nat.beq (Nat.mod (Nat.shiftRight mask t) 2) 1
def NK (mask : Nat) (E : En) : Prop := ∀ t, keepB mask t = false → look .nil E t = .bad
noncomputable def delK (E : En) : Nat → (En → Bool) → Bool := En.rec (motive := fun _ => Nat → (En → Bool) → Bool) (fun _ K => K .nil)
  (fun t' v r ih t K => Bool.rec (motive := fun _ => Bool) (ih t fun r => K (.cons t' v r)) (K r) (Nat.beq t t')) E
def En.del : En → Nat → En
  | .nil, _ => .nil
  | .cons t' v r, t => if t = t' then r else .cons t' v (En.del r t)
theorem En.del_cons (t' : Nat) (v : AV) (r : En) (t : Nat) : En.del (.cons t' v r) t = if t = t' then r else .cons t' v (En.del r t) := rfl
theorem delK_eq : ∀ (E : En) (t : Nat) (K : En → Bool), delK E t K = K (E.del t)
  | .nil, _, _ => rfl
  | .cons t' v r, t, K => by
    show Bool.rec (motive := fun _ => Bool) (delK r t fun r => K (.cons t' v r)) (K r) (Nat.beq t t') = _
    rw [delK_eq r, En.del_cons]
    by_cases h : t = t'
    · rw [if_pos h, h, show Nat.beq t' t' = true from by simp]
    · rw [if_neg h, beq_ne h]
theorem look_del : ∀ (E : En) (t t' : Nat), t' ≠ t → look .nil (E.del t) t' = look .nil E t'
  | .nil, _, _, _ => rfl
  | .cons a v r, t, t', h => by
    rw [En.del_cons]
    by_cases g : t = a
    · subst g; rw [if_pos rfl, look_nilc, if_neg h]
    · rw [if_neg g, look_nilc, look_nilc, look_del r t t' h]
noncomputable def flushK (mask : Nat) (L : En) : En → (En → Bool) → Bool := En.rec (motive := fun _ => En → (En → Bool) → Bool) (fun E K => K E)
  (fun t v _ ih E K => ih E fun E => Bool.rec (motive := fun _ => Bool) (K E) (delK E t fun E => K (.cons t v E)) (keepB mask t)) L
theorem flushK_sound {mask : Nat} : ∀ {L E : En} {K : En → Bool}, NK mask E → flushK mask L E K = true → ∃ E', K E' = true ∧ NK mask E' ∧ ∀ t, keepB mask t = true → look .nil E' t = look L E t
  | .nil, E, K, hn, h => ⟨E, h, hn, fun t _ => rfl⟩
  | .cons t v r, E, K, hn, h => by
    obtain ⟨E1, h1, h2, h3⟩ := flushK_sound (L := r) (K := fun E => Bool.rec (motive := fun _ => Bool) (K E) (delK E t fun E => K (.cons t v E)) (keepB mask t)) hn h
    cases hk : keepB mask t with
    | true =>
      rw [hk] at h1
      have h1 : delK E1 t (fun E => K (.cons t v E)) = true := h1
      rw [delK_eq] at h1
      refine ⟨_, h1, fun x hx => ?_, fun x hx => ?_⟩
      · rw [look_nilc, if_neg (fun g => by rw [g, hk] at hx; cases hx), look_del _ _ _ (fun g => by rw [g, hk] at hx; cases hx)]
        exact h2 x hx
      · rw [look_nilc, look_cons]
        by_cases g : x = t
        · rw [if_pos g, if_pos g]
        · rw [if_neg g, if_neg g, look_del _ _ _ g]
          exact h3 x hx
    | false =>
      rw [hk] at h1
      refine ⟨E1, h1, h2, fun x hx => ?_⟩
      rw [look_cons, if_neg (fun g => by rw [g, hk] at hx; cases hx)]
      exact h3 x hx
theorem flush_rel {mask : Nat} {m : Map} {L E E' : En} {e : Env} (he : EnvRel m L E e) (hn : NK mask E') (h : ∀ t, keepB mask t = true → look .nil E' t = look L E t) : EnvRel m .nil E' e := by
  intro t
  cases hk : keepB mask t with
  | true => rw [h t hk]; exact he t
  | false => rw [hn t hk]; trivial
/-- The parameters. -/
noncomputable def bindK (l : AV) : Nat → Nat → En → (En → Bool) → Bool := AV.rec (motive := fun _ => Nat → Nat → En → (En → Bool) → Bool) (fun _ _ _ _ => false) (fun _ _ _ _ _ => false) (fun _ _ _ _ _ _ => false) (fun _ _ _ _ _ _ => false) (fun _ _ _ _ => false) (fun _ _ _ _ _ _ => false) (fun _ _ _ _ => false) (fun _ _ _ _ => false) (fun _ _ _ _ _ _ _ _ => false) (fun _ _ _ _ _ _ _ _ => false) (fun _ _ _ _ => false) (fun _ _ _ _ _ => false) (fun _ _ _ _ _ _ _ => false) (fun _ _ _ _ => false) (fun _ _ _ _ => false) (fun _ _ _ _ _ _ _ => false) (fun _ _ E K => K E) (fun v _ _ ih i mask E K => natK (Nat.succ i) fun i' => Bool.rec (motive := fun _ => Bool) (ih i' mask E K) (ih i' mask (.cons i v E) K) (keepB mask i)) (fun _ _ _ _ _ _ => false) (fun _ _ _ _ _ _ => false) l
theorem bindK_sound {m : Map} {mask : Nat} {all : List Value} : ∀ {l : AV} {i : Nat} {E : En} {K : En → Bool} {us : List Value}, relL m l us → (∀ j u, us[j]? = some u → all[i + j]? = some u) → EnvRel m .nil E (envOf all) → NK mask E → bindK l i mask E K = true →
    ∃ E', K E' = true ∧ EnvRel m .nil E' (envOf all) ∧ NK mask E' := by
  intro l
  induction l with
  | nil => intro i E K us hr ha he hn h; exact ⟨E, h, he, hn⟩
  | cons v t _ ih =>
    intro i E K us hr ha he hn h
    obtain ⟨u, us, h1, h2, rfl⟩ := hr
    have ha' : ∀ j x, us[j]? = some x → all[i + 1 + j]? = some x := fun j x hx => by
      have := ha (j + 1) x (by simpa using hx)
      rwa [show i + (j + 1) = i + 1 + j from by omega] at this
    have h : natK (Nat.succ i) (fun i' => Bool.rec (motive := fun _ => Bool) (bindK t i' mask E K) (bindK t i' mask (.cons i v E) K) (keepB mask i)) = true := h
    rw [natK_eq] at h
    cases hk : keepB mask i with
    | false => rw [hk] at h; exact ih h2 ha' he hn h
    | true =>
      rw [hk] at h
      refine ih h2 ha' ?_ ?_ h
      · intro x
        rw [look_nilc]
        by_cases g : x = i
        · subst g
          rw [if_pos rfl]
          have := ha 0 u rfl
          unfold envOf
          rw [nth_eq]
          rw [Nat.add_zero] at this
          rw [this]
          exact h1
        · rw [if_neg g]; exact he x
      · intro x hx
        rw [look_nilc, if_neg (fun g => by rw [g, hk] at hx; cases hx)]
        exact hn x hx
  | _ => intro i E K us hr; exact hr.elim
/-! ### Code -/
inductive X where
  | norm
  | ex (id : Nat)
  | ret
def xr : X → Exit → Prop
  | .norm, x => x = .normal
  | .ex id, x => x = .exit id
  | .ret, x => x = .ret
abbrev CK := X → En → Hp → Bool
abbrev IH := Code → Nat → Nat → En → Hp → CK → Bool
noncomputable def xCase (x : X) (a : Bool) (b : Nat → Bool) (c : Bool) : Bool := X.rec (motive := fun _ => Bool → (Nat → Bool) → Bool → Bool) (fun a _ _ => a) (fun id _ b _ => b id) (fun _ _ c => c) x a b c
/-- What the evaluator has to know of a function. -/
def fnB (P : Program) (f : Nat) : Option (Code × Nat × List ResultVar) := match P.funcs[f]? with
  | some fn => match fn.body with
    | some c => some (c, fn.ntmps, fn.results.toList)
    | none => none
  | none => none
noncomputable def resL (rs : List ResultVar) (P : Program) (E : En) (H : Hp) : (AV → Bool) → Bool := List.rec (motive := fun _ => (AV → Bool) → Bool) (fun K => K .nil)
  (fun r _ ih K => ResultVar.rec (motive := fun _ => Bool) (fun t => forceK (look .nil E t) fun v => ih fun l => K (.cons v l)) (fun a t => lLoad t (.tmp a) P .nil E H fun v => forceK v fun v => ih fun l => K (.cons v l)) r) rs
noncomputable def tupK (l : AV) (K : AV → Bool) : Bool := AV.rec (motive := fun _ => (AV → Bool) → Bool) (fun _ => false) (fun _ _ => false) (fun _ _ _ => false) (fun _ _ _ => false) (fun _ => false) (fun _ _ _ => false) (fun _ => false) (fun _ => false) (fun _ _ _ _ _ => false) (fun _ _ _ _ _ => false) (fun _ => false) (fun _ _ => false) (fun _ _ _ _ => false) (fun _ => false) (fun _ => false) (fun _ _ _ _ => false) (fun  K => K (.tup .nil)) (fun v t _ _ K => isNilL t (K v) (K (.tup (.cons v t)))) (fun _ _ _ => false) (fun _ _ _ => false) l K
noncomputable def callF (ih : IH) (P : Program) (mk : Nat → Nat) (orc : Nat → Option CallF) (f : Nat) (l : AV) (H : Hp) (K : HK) : Bool :=
  Option.rec (motive := fun _ => Bool) (optK (fnB P f) fun q => andK (Nat.ble (lenL l) q.2.1) (bindK l 0 (mk f) .nil fun E => ih q.1 (mk f) q.2.1 E H fun x E H => xCase x (resL q.2.2 P E H fun l => tupK l fun v => K v H) (fun _ => false) (resL q.2.2 P E H fun l => tupK l fun v => K v H)))
    (fun F => F f l H K) (orc f)
structure Par where
  P : Program
  msk : Nat → Nat
  orc : Nat → Option CallF
noncomputable def cRegion (_id : Nat) (ops : Array Oper) (draw : Bool) (ih : IH) (p : Par) (mask N : Nat) (E : En) (H : Hp) (K : CK) : Bool := andK (dstAll N ops) (Bool.rec (motive := fun _ => Bool)
  (evOps ops.toList ops p.P (callF ih p.P p.msk p.orc) .nil E H fun L H => flushK mask L E fun E => K .norm E H)
  (Bool.rec (motive := fun _ => Bool) ((fun l => andK (ordMAll ops l) (evM l ops p.P (callF ih p.P p.msk p.orc) .nil [] .nil E H fun L H => flushK mask L E fun E => K .norm E H)) (order4 p.P ops)) (evDraw (mkOrd p.P ops ops.size (Array.replicate ops.size false)) ops p.P (callF ih p.P p.msk p.orc) .nil .nil E H fun L H => flushK mask L E fun E => K .norm E H) (ordAll ops (mkOrd p.P ops ops.size (Array.replicate ops.size false)))) draw)
noncomputable def cSeq (a b : Code) (ih : IH) (_p : Par) (mask N : Nat) (E : En) (H : Hp) (K : CK) : Bool := ih a mask N E H fun x E H => xCase x (ih b mask N E H K) (fun id => K (.ex id) E H) (K .ret E H)
noncomputable def cCond (c : Operand) (a b : Code) (ih : IH) (_p : Par) (mask N : Nat) (E : En) (H : Hp) (K : CK) : Bool := asB (opV c .nil E) fun t => ih (Bool.rec (motive := fun _ => Code) b a t) mask N E H K
noncomputable def cBlock (id : Nat) (c : Code) (ih : IH) (_p : Par) (mask N : Nat) (E : En) (H : Hp) (K : CK) : Bool := ih c mask N E H fun x E H => xCase x (K .norm E H) (fun j => Bool.rec (motive := fun _ => Bool) (K (.ex j) E H) (K .norm E H) (Nat.beq j id)) (K .ret E H)
noncomputable def cLoop (c : Code) (ih : IH) (_p : Par) (mask N : Nat) (E : En) (H : Hp) (K : CK) : Bool := ih c mask N E H fun x E H => xCase x (ih (.loop c) mask N E H K) (fun id => K (.ex id) E H) (K .ret E H)
noncomputable def stepC (c : Code) : IH → Par → Nat → Nat → En → Hp → CK → Bool := Code.rec (motive := fun _ => IH → Par → Nat → Nat → En → Hp → CK → Bool)
  (fun _ _ _ _ E H K => K .norm E H) cRegion (fun a b _ _ => cSeq a b) (fun c a b _ _ => cCond c a b) (fun id c _ => cBlock id c) (fun c _ => cLoop c) (fun _ _ _ _ _ _ _ _ _ _ _ _ _ => false)
  (fun id _ _ _ _ E H K => K (.ex id) E H) (fun c _ ih _ mask N E H K => ih c mask N E H K) (fun _ _ _ _ _ E H K => K .norm E H) (fun _ _ _ _ _ _ _ _ => false) (fun _ _ _ _ E H K => K .ret E H) (fun _ _ _ _ _ _ _ _ => false) c
noncomputable def evC (p : Par) (n : Nat) : IH := Nat.rec (motive := fun _ => IH) (fun _ _ _ _ _ _ => false) (fun _ ih c mask N E H K => stepC c ih p mask N E H K) n
/-- What is asked of the parameters. -/
structure ParOk (p : Par) : Prop where
  name : ∀ (f : Nat) (fn : Func), p.P.funcs[f]? = some fn → (fn.name == "runtime.NumGoroutine") = false
  mixed : p.P.follows .mixedOrders = true
  orc : ∀ f F, p.orc f = some F → ∀ l H K m w W0 Fr vs, Inv1 m H → Mem W0 m H Fr w → relL m l vs → F f l H K = true → CallRes p.P f vs w W0 Fr m K
def QX (N : Nat) (W0 : World) (Fr : Assn) (mask : Nat) (m : Map) (K : CK) (x : Exit) (a' : Act) (w' : World) : Prop :=
  ∃ X e' m' E' H', xr X x ∧ EnvOk N a' e' ∧ Map.le m m' ∧ Inv1 m' H' ∧ EnvRel m' .nil E' e' ∧ NK mask E' ∧ Mem W0 m' H' Fr w' ∧ K X E' H' = true
theorem QX.mono {N : Nat} {W0 : World} {Fr : Assn} {mask : Nat} {m m' : Map} {K : CK} {x : Exit} {a : Act} {w : World} (hm : Map.le m m') (h : QX N W0 Fr mask m' K x a w) : QX N W0 Fr mask m K x a w := by
  obtain ⟨X, e', m2, E', H', h1, h2, h3, h4⟩ := h
  exact ⟨X, e', m2, E', H', h1, h2, Map.le_trans hm h3, h4⟩
def SndC (p : Par) (n : Nat) : Prop := ∀ (c : Code) (mask N : Nat) (E : En) (H : Hp) (K : CK) (m : Map) (a : Act) (w W0 : World) (Fr : Assn) (e : Env), EnvOk N a e → EnvRel m .nil E e → NK mask E → Inv1 m H → Mem W0 m H Fr w → evC p n c mask N E H K = true →
  c.wp p.P (QX N W0 Fr mask m K) a w ∧ ∀ c', c = .loop c' → Code.rounds p.P c' (QX N W0 Fr mask m K) n a w
section
variable {p : Par}
theorem load_result {P : Program} {e : Env} {tmps : Array Value} {m : Map} {w : World} {E : En} {t : TypeId} {a : Nat} {H : Hp} {K : AV → Bool} (ht : ∀ t, tmps.getD t undef = e t) (he : EnvRel m .nil E e) (h : lLoad t (.tmp a) P .nil E H K = true) (hl : LS P e ⟨none, .load t (.tmp a), t, "", #[], none⟩ m w K) : ∃ av v, (resVar tmps (.cell a t)).run P w = .ok v w ∧ rel m av v ∧ K av = true := by
  obtain ⟨av, v, h1, h2, h3⟩ := hl
  refine ⟨av, v, ?_, h2, h3⟩
  obtain ⟨id, off, g1, _⟩ := asP_sound (v := opV (.tmp a) .nil E) h
  obtain ⟨b, c, _, r2⟩ := (opR he g1 : rel m (.p id off) _)
  have r2 : e a = .pointer (some ⟨b, off, none⟩) := r2
  have h1 : (do let v ← Instr.loadAt t (e a); pure (Next.value v) : Sem Next).run P w = .ok (.value v) w := h1
  rw [r2] at h1
  simp only [Instr.loadAt, Instr.sureAddr, Sem.run_bind, Sem.run_pure, Result.andThen_ok] at h1
  simp only [resVar, ht, r2, asAddr, Sem.run_bind, Sem.run_pure, Result.andThen_ok]
  cases hx : (loadVar t ⟨b, off, none⟩).run P w with
  | ok v' w' => rw [hx] at h1; simp only [Result.andThen_ok, Sem.run_pure] at h1; cases h1; rfl
  | halt x w' => rw [hx] at h1; cases h1
theorem resL_sound {m : Map} {E : En} {e : Env} {P : Program} {tmps : Array Value} {W0 w : World} {H : Hp} {Fr : Assn} (ht : ∀ t, tmps.getD t undef = e t) (he : EnvRel m .nil E e) (hi : Inv1 m H) (hs : Mem W0 m H Fr w) : ∀ {rs : List ResultVar} {K : AV → Bool}, resL rs P E H K = true → ∃ l vs, relL m l vs ∧ K l = true ∧ (rs.mapM (resVar tmps)).run P w = .ok vs w
  | [], K, h => ⟨.nil, [], rfl, h, rfl⟩
  | r :: rs, K, h => by
    cases r with
    | tmp t =>
      have h : forceK (look .nil E t) (fun v => resL rs P E H fun l => K (.cons v l)) = true := h
      rw [forceK_eq] at h
      obtain ⟨l, vs, h1, h2, h3⟩ := resL_sound ht he hi hs h
      refine ⟨.cons (look .nil E t) l, e t :: vs, ⟨e t, vs, he t, h1, rfl⟩, h2, ?_⟩
      rw [List.mapM_cons]
      simp only [resVar, Sem.run_bind, Sem.run_pure, Result.andThen_ok]
      rw [h3]
      simp only [Result.andThen_ok, ht]
    | cell a t =>
      have h : lLoad t (.tmp a) P .nil E H (fun v => forceK v fun v => resL rs P E H fun l => K (.cons v l)) = true := h
      obtain ⟨av, v, g1, g2, g3⟩ := load_result ht he h (lLoad_sound rfl hi he hs h)
      rw [forceK_eq] at g3
      obtain ⟨l, vs, h1, h2, h3⟩ := resL_sound ht he hi hs g3
      refine ⟨.cons av l, v :: vs, ⟨v, vs, g2, h1, rfl⟩, h2, ?_⟩
      rw [List.mapM_cons]
      simp only [Sem.run_bind, Sem.run_pure, g1, Result.andThen_ok]
      rw [h3]
      simp only [Result.andThen_ok]
theorem tupK_sound {m : Map} {l : AV} {vs : List Value} {K : AV → Bool} (hr : relL m l vs) (h : tupK l K = true) : ∃ v, rel m v (tupled vs) ∧ K v = true := by
  cases l with
  | nil => cases hr; exact ⟨.tup .nil, ⟨[], rfl, rfl⟩, h⟩
  | cons x t =>
    obtain ⟨u, us, h1, h2, rfl⟩ := hr
    rcases isNilL_sound (c := t) h with ⟨rfl, h3⟩ | h3
    · have h2 : us = [] := h2
      subst h2
      exact ⟨x, h1, h3⟩
    · cases us with
      | nil =>
        cases t with
        | nil => exact ⟨x, h1, (show isNilL .nil (K x) (K (.tup (.cons x .nil))) = true from h)⟩
        | cons y z => obtain ⟨_, _, _, _, g⟩ := h2; cases g
        | _ => exact h2.elim
      | cons y ys => exact ⟨.tup (.cons x t), ⟨u :: y :: ys, ⟨u, _, h1, h2, rfl⟩, rfl⟩, h3⟩
  | _ => exact hr.elim
theorem callF_ok {n : Nat} (hp : ParOk p) (hs : SndC p n) : CallOk p.P (callF (evC p n) p.P p.msk p.orc) := by
  intro f l H K m w W0 Fr vs hi hm hr h
  unfold callF at h
  cases ho : p.orc f with
  | some F => rw [ho] at h; exact hp.orc f F ho l H K m w W0 Fr vs hi hm hr h
  | none =>
    rw [ho] at h
    obtain ⟨⟨c, N, rs⟩, h1, h2⟩ := optK_sound (o := fnB p.P f) h
    unfold fnB at h1
    split at h1
    · rename_i fn hfn
      split at h1
      · rename_i c' hb
        simp only [Option.some.injEq, Prod.mk.injEq] at h1
        obtain ⟨rfl, rfl, rfl⟩ := h1
        left
        refine ⟨⟨fn, hfn, hp.name f fn hfn, by rw [hb]; rfl⟩, ?_⟩
        refine calls_of_wp hfn hb ?_
        obtain ⟨h3, h4⟩ := andK_sound h2
        have hle : vs.length ≤ fn.ntmps := by rw [← lenL_rel hr]; exact Nat.le_of_ble_eq_true h3
        obtain ⟨E, h5, h6, h7⟩ := bindK_sound (m := m) (mask := p.msk f) (all := vs) hr (fun j u hj => by rwa [Nat.zero_add]) (fun t => by rw [look_nil]; trivial) (fun t _ => rfl) h4
        have hw := (hs c' (p.msk f) fn.ntmps E H _ m _ w W0 Fr (envOf vs) (EnvOk.enter hle) h6 h7 hi hm h5).1
        refine wp_mono hw ?_
        rintro x a' w' ⟨X, e', m', E', H', k1, k2, k3, k4, k5, k6, k7, k8⟩
        have fin : resL fn.results.toList p.P E' H' (fun l => tupK l fun v => K v H') = true → a'.defers = [] ∧ ∃ v, (results fn a'.tmps).run p.P w' = .ok v w' ∧ ∃ v_1, Ending.returned v = Ending.returned v_1 ∧ Post1 W0 Fr m K v_1 w' := by
          intro hf
          obtain ⟨l', vs', g1, g2, g3⟩ := resL_sound (P := p.P) (w := w') k2.get k5 k4 k7 hf
          obtain ⟨v, g4, g5⟩ := tupK_sound g1 g2
          exact ⟨k2.defers, _, results_run g3, _, rfl, m', H', v, k3, k4, g4, k7, g5⟩
        cases X with
        | norm => have k1 : x = .normal := k1; subst k1; exact fin k8
        | ret => have k1 : x = .ret := k1; subst k1; exact fin k8
        | ex id => cases k8
      · cases h1
    · cases h1
theorem wp_loopR {c : Code} {Q : Exit → Act → World → Prop} {P : Program} {n : Nat} {a : Act} {w : World} (h : Code.rounds P c Q n a w) : (Code.loop c).wp P Q a w := wp_loop_rounds n h
theorem rounds_mono {c : Code} {Q Q' : Exit → Act → World → Prop} {P : Program} (hq : ∀ x a w, Q x a w → Q' x a w) : ∀ {n : Nat} {a : Act} {w : World}, Code.rounds P c Q n a w → Code.rounds P c Q' n a w
  | 0, _, _, h => h
  | n + 1, a, w, h => by
    rw [rounds_succ] at h ⊢
    refine wp_mono h fun x a w g => ?_
    cases x with
    | normal => exact rounds_mono hq g
    | _ => exact hq _ _ _ g
theorem evC_sound (hp : ParOk p) : ∀ n, SndC p n
  | 0 => by intro c mask N E H K m a w W0 Fr e _ _ _ _ _ h; cases h
  | n + 1 => by
    intro c mask N E H K m a w W0 Fr e ha he hn hi hs h
    have ih := evC_sound hp n
    have hcall := callF_ok hp ih
    have h : stepC c (evC p n) p mask N E H K = true := h
    have here : ∀ X x, xr X x → K X E H = true → QX N W0 Fr mask m K x a w := fun X x hx hk => ⟨X, e, m, E, H, hx, ha, Map.le_refl m, hi, he, hn, hs, hk⟩
    have lnot : (∀ c', c ≠ .loop c') → ∀ c', c = .loop c' → Code.rounds p.P c' (QX N W0 Fr mask m K) (n + 1) a w := fun g c' hc => absurd hc (g c')
    cases c with
    | skip => exact ⟨wp_skip (here .norm _ rfl h), lnot (by intro c'; nofun)⟩
    | label l => exact ⟨wp_label (here .norm _ rfl h), lnot (by intro c'; nofun)⟩
    | ret => exact ⟨wp_ret (here .ret _ rfl h), lnot (by intro c'; nofun)⟩
    | exit id => exact ⟨wp_exit (here (.ex id) _ rfl h), lnot (by intro c'; nofun)⟩
    | seq x y =>
      refine ⟨wp_seq (wp_mono (ih x mask N E H _ m a w W0 Fr e ha he hn hi hs h).1 ?_), lnot (by intro c'; nofun)⟩
      rintro ex a' w' ⟨X, e', m', E', H', k1, k2, k3, k4, k5, k6, k7, k8⟩
      cases X with
      | norm => have k1 : ex = .normal := k1; subst k1; exact wp_mono (ih y mask N E' H' K m' a' w' W0 Fr e' k2 k5 k6 k4 k7 k8).1 fun _ _ _ g => g.mono k3
      | ex id => have k1 : ex = .exit id := k1; subst k1; exact ⟨.ex id, e', m', E', H', rfl, k2, k3, k4, k5, k6, k7, k8⟩
      | ret => have k1 : ex = .ret := k1; subst k1; exact ⟨.ret, e', m', E', H', rfl, k2, k3, k4, k5, k6, k7, k8⟩
    | cond c x y =>
      obtain ⟨t, h1, h2⟩ := asB_sound (v := opV c .nil E) h
      have hc : a.eval c = .bool t := by rw [ha.eval]; exact opB he h1
      refine ⟨wp_cond hc ?_, lnot (by intro c'; nofun)⟩
      have := (ih _ mask N E H K m a w W0 Fr e ha he hn hi hs h2).1
      cases t <;> exact this
    | block id c =>
      refine ⟨wp_block (wp_mono (ih c mask N E H _ m a w W0 Fr e ha he hn hi hs h).1 ?_), lnot (by intro c'; nofun)⟩
      rintro ex a' w' ⟨X, e', m', E', H', k1, k2, k3, k4, k5, k6, k7, k8⟩
      cases X with
      | norm => have k1 : ex = .normal := k1; subst k1; exact ⟨.norm, e', m', E', H', rfl, k2, k3, k4, k5, k6, k7, k8⟩
      | ret => have k1 : ex = .ret := k1; subst k1; exact ⟨.ret, e', m', E', H', rfl, k2, k3, k4, k5, k6, k7, k8⟩
      | ex j =>
        have k1 : ex = .exit j := k1
        subst k1
        have k8 : Bool.rec (motive := fun _ => Bool) (K (.ex j) E' H') (K .norm E' H') (Nat.beq j id) = true := k8
        simp only [Exit.inBlock]
        by_cases g : j = id
        · rw [if_pos g]
          rw [show Nat.beq j id = true from by rw [g]; simp] at k8
          exact ⟨.norm, e', m', E', H', rfl, k2, k3, k4, k5, k6, k7, k8⟩
        · rw [if_neg g]
          rw [beq_ne g] at k8
          exact ⟨.ex j, e', m', E', H', rfl, k2, k3, k4, k5, k6, k7, k8⟩
    | loop c =>
      have key : Code.rounds p.P c (QX N W0 Fr mask m K) (n + 1) a w := by
        rw [rounds_succ]
        refine wp_mono (ih c mask N E H _ m a w W0 Fr e ha he hn hi hs h).1 ?_
        rintro ex a' w' ⟨X, e', m', E', H', k1, k2, k3, k4, k5, k6, k7, k8⟩
        cases X with
        | norm => have k1 : ex = .normal := k1; subst k1; exact rounds_mono (fun _ _ _ g => g.mono k3) ((ih (.loop c) mask N E' H' K m' a' w' W0 Fr e' k2 k5 k6 k4 k7 k8).2 c rfl)
        | ex id => have k1 : ex = .exit id := k1; subst k1; exact ⟨.ex id, e', m', E', H', rfl, k2, k3, k4, k5, k6, k7, k8⟩
        | ret => have k1 : ex = .ret := k1; subst k1; exact ⟨.ret, e', m', E', H', rfl, k2, k3, k4, k5, k6, k7, k8⟩
      exact ⟨wp_loopR key, fun c' hc => by cases hc; exact key⟩
    | region id ops draw =>
      refine ⟨?_, lnot (by intro c'; nofun)⟩
      obtain ⟨h1, h2⟩ := andK_sound (c := dstAll N ops) h
      have fin : ∀ a' w', RegQ N W0 Fr m E (fun L H => flushK mask L E fun E => K .norm E H) a' w' → QX N W0 Fr mask m K .normal a' w' := by
        rintro a' w' ⟨e', m', L', H', k1, k2, k3, k4, k5, k6⟩
        obtain ⟨E', g1, g2, g3⟩ := flushK_sound hn k6
        exact ⟨.norm, e', m', E', H', rfl, k1, k2, k3, flush_rel k4 g2 g3, g2, k5, g1⟩
      cases draw with
      | false =>
        have h2 : evOps ops.toList ops p.P (callF (evC p n) p.P p.msk p.orc) .nil E H (fun L H => flushK mask L E fun E => K .norm E H) = true := h2
        have := evOps_sound (W0 := W0) (Fr := Fr) hcall h1 ops.toList 0 (by simp) ha he hi hs h2
        rw [Array.length_toList, ← List.range_eq_range'] at this
        refine wp_mono (wp_region this) ?_
        rintro x a' w' ⟨rfl, hq⟩
        exact fin a' w' hq
      | true =>
        have h2 : Bool.rec (motive := fun _ => Bool) (andK (ordMAll ops (order4 p.P ops)) (evM (order4 p.P ops) ops p.P (callF (evC p n) p.P p.msk p.orc) .nil [] .nil E H fun L H => flushK mask L E fun E => K .norm E H)) (evDraw (mkOrd p.P ops ops.size (Array.replicate ops.size false)) ops p.P (callF (evC p n) p.P p.msk p.orc) .nil .nil E H fun L H => flushK mask L E fun E => K .norm E H) (ordAll ops (mkOrd p.P ops ops.size (Array.replicate ops.size false))) = true := h2
        cases h3 : ordAll ops (mkOrd p.P ops ops.size (Array.replicate ops.size false)) with
        | true =>
          rw [h3] at h2
          have := evDraw_sound (P := p.P) (W0 := W0) (Fr := Fr) (pl := .nil) (S := fun _ _ => True) hcall h1 _ (fun _ _ => trivial) (fun _ => trivial) ha he hi (Sat.drew hs) h2
          refine wp_mono (wpXS_region hp.mixed h3 this) ?_
          rintro x a' w' ⟨rfl, hq⟩; exact fin a' w' hq
        | false =>
          rw [h3] at h2
          obtain ⟨h5, h4⟩ := andK_sound h2
          have := evM_region (id := id) (W0 := W0) (Fr := Fr) hp.mixed h5 hcall h1 ha he hi (Sat.drew hs) h4
          refine wp_mono this ?_
          rintro x a' w' ⟨rfl, hq⟩; exact fin a' w' hq
    | scope c =>
      refine ⟨wp_scope_straight (wp_mono (ih c mask N E H _ m a w W0 Fr e ha he hn hi hs h).1 ?_), lnot (by intro c'; nofun)⟩
      rintro ex a' w' hq
      have hq' := hq
      obtain ⟨X, e', m', E', H', k1, _⟩ := hq
      cases X with
      | norm => have k1 : ex = .normal := k1; subst k1; exact hq'
      | ex id => have k1 : ex = .exit id := k1; subst k1; exact hq'
      | ret => have k1 : ex = .ret := k1; subst k1; exact hq'
    | rangeFunc f ps x y => cases h
    | goto l => cases h
    | refuse s => cases h
end
/-! ### A closed run -/
def h0 : Hp := ⟨1, .nil⟩
def noOrc : Nat → Option CallF := fun _ => none
/-- A function of no parameters that, run here, ends true: so it does in every world. -/
theorem closed_true {p : Par} (hp : ParOk p) {f n : Nat} (h : callF (evC p n) p.P p.msk p.orc f .nil h0 (fun v _ => asB v fun b => b) = true) (hb : Callable p.P f) : Ctr p.P f [] [] (fun v Ps => v = .bool true ∧ Ps = []) := by
  refine ⟨hb, fun W0 Fr w hs => ?_⟩
  have hm : Mem W0 (fun _ => none) h0 Fr w := hs
  have := callF_ok hp (evC_sound hp n) f .nil h0 _ (fun _ => none) w W0 Fr [] ⟨⟨Nat.le_refl _, fun _ _ => rfl⟩, rfl⟩ hm rfl h
  rcases this with ⟨_, hc⟩ | ⟨v, w', hr, hc⟩
  · refine hc.mono ?_
    rintro en w' ⟨v, rfl, m', H', av, k1, k2, k3, k4, k5⟩
    obtain ⟨b, rfl, hb⟩ := asB_sound k5
    subst hb
    refine ⟨_, [], rfl, ⟨k3, rfl⟩, ?_⟩
    refine Sat.mono ?_ k4
    have e1 : Ent (sep (hpA m' H'.t ++ [Fr])) (sep [Fr]) := by
      generalize hpA m' H'.t = L
      induction L with
      | nil => exact Ent.refl _
      | cons A L ih => exact (Ent.drop _ _).trans ih
    exact e1
  · rw [callable_run hb] at hr
    cases hr
end Go.Evl
