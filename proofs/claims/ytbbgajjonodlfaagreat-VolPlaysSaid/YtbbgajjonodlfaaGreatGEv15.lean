/-
  The evaluator: code and calls; what it comes to holds in every world. It proves nothing of the program by itself.
-/
import Derived.Test.YtbbgajjonodlfaaGreatGEv14b
import Derived.Scope
import Derived.RangeFuncLeaves
set_option linter.unusedVariables false
set_option linter.unusedSimpArgs false
namespace Go.Evl
open Go Go.Sl
/-! ### Which temporaries outlive a region -/
noncomputable def delK (E : En) : Nat → (En → Bool) → Bool := En.rec (motive := fun _ => Nat → (En → Bool) → Bool) (fun _ K => K .nil)
  (fun t' v r ih t K => Bool.rec (motive := fun _ => Bool) (ih t fun r => K (.cons t' v r)) (K r) (Nat.beq t t')) E
def En.del : En → Nat → En
  | .nil, _ => .nil
  | .cons t' v r, t => if t = t' then r else .cons t' v (En.del r t)
theorem En.del_cons (t' : Nat) (v : AV) (r : En) (t : Nat) : En.del (.cons t' v r) t = if t = t' then r else .cons t' v (En.del r t) := rfl
theorem delK_eq : ∀ (E : En) (t : Nat) (K : En → Bool), delK E t K = K (E.del t)
  | .nil, _, _ => rfl
  | .cons t' v r, t, K => by
    show Bool.rec (motive := fun _ => Bool) (delK r t fun r => K (.cons t' v r)) (K r) (Nat.beq t t') = _
    rw [delK_eq r, En.del_cons]
    by_cases h : t = t'
    · rw [if_pos h, h, show Nat.beq t' t' = true from by simp]
    · rw [if_neg h, beq_ne h]
theorem look_del : ∀ (E : En) (t t' : Nat), t' ≠ t → look .nil (E.del t) t' = look .nil E t'
  | .nil, _, _, _ => rfl
  | .cons a v r, t, t', h => by
    rw [En.del_cons]
    by_cases g : t = a
    · subst g; rw [if_pos rfl, look_nilc, if_neg h]
    · rw [if_neg g, look_nilc, look_nilc, look_del r t t' h]
noncomputable def flushK (mask : Nat) (L : En) : En → (En → Bool) → Bool := En.rec (motive := fun _ => En → (En → Bool) → Bool) (fun E K => K E)
  (fun t v _ ih E K => ih E fun E => Bool.rec (motive := fun _ => Bool) (K E) (delK E t fun E => K (.cons t v E)) (keepB mask t)) L
theorem flushK_sound {mask : Nat} : ∀ {L E : En} {K : En → Bool}, NK mask E → flushK mask L E K = true → ∃ E', K E' = true ∧ NK mask E' ∧ ∀ t, keepB mask t = true → look .nil E' t = look L E t
  | .nil, E, K, hn, h => ⟨E, h, hn, fun t _ => rfl⟩
  | .cons t v r, E, K, hn, h => by
    obtain ⟨E1, h1, h2, h3⟩ := flushK_sound (L := r) (K := fun E => Bool.rec (motive := fun _ => Bool) (K E) (delK E t fun E => K (.cons t v E)) (keepB mask t)) hn h
    cases hk : keepB mask t with
    | true =>
      rw [hk] at h1
      have h1 : delK E1 t (fun E => K (.cons t v E)) = true := h1
      rw [delK_eq] at h1
      refine ⟨_, h1, fun x hx => ?_, fun x hx => ?_⟩
      · rw [look_nilc, if_neg (fun g => by rw [g, hk] at hx; cases hx), look_del _ _ _ (fun g => by rw [g, hk] at hx; cases hx)]
        exact h2 x hx
      · rw [look_nilc, look_cons]
        by_cases g : x = t
        · rw [if_pos g, if_pos g]
        · rw [if_neg g, if_neg g, look_del _ _ _ g]
          exact h3 x hx
    | false =>
      rw [hk] at h1
      refine ⟨E1, h1, h2, fun x hx => ?_⟩
      rw [look_cons, if_neg (fun g => by rw [g, hk] at hx; cases hx)]
      exact h3 x hx
theorem flush_rel {mask : Nat} {m : Map} {L E E' : En} {e : Env} (he : EnvRel m L E e) (hn : NK mask E') (h : ∀ t, keepB mask t = true → look .nil E' t = look L E t) : EnvRel m .nil E' e := by
  intro t
  cases hk : keepB mask t with
  | true => rw [h t hk]; exact he t
  | false => rw [hn t hk]; trivial
/-- The parameters. -/
noncomputable def bindK (l : AV) : Nat → Nat → En → (En → Bool) → Bool := AV.rec (motive := fun _ => Nat → Nat → En → (En → Bool) → Bool) (fun _ _ _ _ => false) (fun _ _ _ _ _ => false) (fun _ _ _ _ _ _ => false) (fun _ _ _ _ _ _ => false) (fun _ _ _ _ => false) (fun _ _ _ _ _ _ => false) (fun _ _ _ _ => false) (fun _ _ _ _ => false) (fun _ _ _ _ _ _ _ _ => false) (fun _ _ _ _ _ _ _ _ => false) (fun _ _ _ _ => false) (fun _ _ _ _ _ => false) (fun _ _ _ _ _ _ _ => false) (fun _ _ _ _ => false) (fun _ _ _ _ => false) (fun _ _ _ _ _ _ _ => false) (fun _ _ E K => K E) (fun v _ _ ih i mask E K => natK (Nat.succ i) fun i' => Bool.rec (motive := fun _ => Bool) (ih i' mask E K) (ih i' mask (.cons i v E) K) (keepB mask i)) (fun _ _ _ _ _ _ => false) (fun _ _ _ _ _ _ => false) l
theorem bindK_sound {m : Map} {mask : Nat} {all : List Value} : ∀ {l : AV} {i : Nat} {E : En} {K : En → Bool} {us : List Value}, relL m l us → (∀ j u, us[j]? = some u → all[i + j]? = some u) → EnvRel m .nil E (envOf all) → NK mask E → bindK l i mask E K = true →
    ∃ E', K E' = true ∧ EnvRel m .nil E' (envOf all) ∧ NK mask E' := by
  intro l
  induction l with
  | nil => intro i E K us hr ha he hn h; exact ⟨E, h, he, hn⟩
  | cons v t _ ih =>
    intro i E K us hr ha he hn h
    obtain ⟨u, us, h1, h2, rfl⟩ := hr
    have ha' : ∀ j x, us[j]? = some x → all[i + 1 + j]? = some x := fun j x hx => by
      have := ha (j + 1) x (by simpa using hx)
      rwa [show i + (j + 1) = i + 1 + j from by omega] at this
    have h : natK (Nat.succ i) (fun i' => Bool.rec (motive := fun _ => Bool) (bindK t i' mask E K) (bindK t i' mask (.cons i v E) K) (keepB mask i)) = true := h
    rw [natK_eq] at h
    cases hk : keepB mask i with
    | false => rw [hk] at h; exact ih h2 ha' he hn h
    | true =>
      rw [hk] at h
      refine ih h2 ha' ?_ ?_ h
      · intro x
        rw [look_nilc]
        by_cases g : x = i
        · subst g
          rw [if_pos rfl]
          have := ha 0 u rfl
          unfold envOf
          rw [nth_eq]
          rw [Nat.add_zero] at this
          rw [this]
          exact h1
        · rw [if_neg g]; exact he x
      · intro x hx
        rw [look_nilc, if_neg (fun g => by rw [g, hk] at hx; cases hx)]
        exact hn x hx
  | _ => intro i E K us hr; exact hr.elim
/-! ### Code -/
inductive X where
  | norm
  | ex (id : Nat)
  | ret
def xr : X → Exit → Prop
  | .norm, x => x = .normal
  | .ex id, x => x = .exit id
  | .ret, x => x = .ret
abbrev CK := X → En → Hp → Bool
abbrev IH := Code → Nat → Nat → En → Hp → CK → Bool
noncomputable def xCase (x : X) (a : Bool) (b : Nat → Bool) (c : Bool) : Bool := X.rec (motive := fun _ => Bool → (Nat → Bool) → Bool → Bool) (fun a _ _ => a) (fun id _ b _ => b id) (fun _ _ c => c) x a b c
/-- What the evaluator has to know of a function. -/
def fnB (P : Program) (f : Nat) : Option (Code × Nat × List ResultVar) := match P.funcs[f]? with
  | some fn => match fn.body with
    | some c => some (c, fn.ntmps, fn.results.toList)
    | none => none
  | none => none
noncomputable def resL (rs : List ResultVar) (P : Program) (E : En) (H : Hp) : (AV → Bool) → Bool := List.rec (motive := fun _ => (AV → Bool) → Bool) (fun K => K .nil)
  (fun r _ ih K => ResultVar.rec (motive := fun _ => Bool) (fun t => forceK (look .nil E t) fun v => ih fun l => K (.cons v l)) (fun a t => lLoad t (.tmp a) P .nil E H fun v => forceK v fun v => ih fun l => K (.cons v l)) r) rs
noncomputable def tupK (l : AV) (K : AV → Bool) : Bool := AV.rec (motive := fun _ => (AV → Bool) → Bool) (fun _ => false) (fun _ _ => false) (fun _ _ _ => false) (fun _ _ _ => false) (fun _ => false) (fun _ _ _ => false) (fun _ => false) (fun _ => false) (fun _ _ _ _ _ => false) (fun _ _ _ _ _ => false) (fun _ => false) (fun _ _ => false) (fun _ _ _ _ => false) (fun _ => false) (fun _ => false) (fun _ _ _ _ => false) (fun  K => K (.tup .nil)) (fun v t _ _ K => isNilL t (K v) (K (.tup (.cons v t)))) (fun _ _ _ => false) (fun _ _ _ => false) l K
noncomputable def callF (ih : IH) (P : Program) (mk : Nat → Nat) (orc : Nat → Option CallF) (f : Nat) (l : AV) (H : Hp) (K : HK) : Bool :=
  Option.rec (motive := fun _ => Bool) (optK (fnB P f) fun q => andK (Nat.ble (lenL l) q.2.1) (bindK l 0 (mk f) .nil fun E => ih q.1 (mk f) q.2.1 E H fun x E H => xCase x (resL q.2.2 P E H fun l => tupK l fun v => K v H) (fun _ => false) (resL q.2.2 P E H fun l => tupK l fun v => K v H)))
    (fun F => F f l H K) (orc f)
/-! Orders that are told beforehand -/
inductive OrdT where
  | a (l : List Nat)
  | b (l : List Nat)
def kd3 : Nat → Kd3
  | 0 => .pure
  | 1 => .load
  | _ => .eff
def kd4 : Nat → Kd4
  | 0 => .pure
  | 1 => .load
  | 2 => .eff
  | 3 => .ann
  | _ => .real
def toA (l : List Nat) : List (Nat × Kd3) := l.map fun n => (n / 8, kd3 (n % 8))
def toB (l : List Nat) : List (Nat × Kd4) := l.map fun n => (n / 8, kd4 (n % 8))
noncomputable def k3K (n : Nat) (K : Kd3 → Bool) : Bool := Nat.rec (motive := fun _ => Bool) (K .pure) (fun n _ => Nat.rec (motive := fun _ => Bool) (K .load) (fun _ _ => K .eff) n) n
theorem k3K_eq (n : Nat) (K : Kd3 → Bool) : k3K n K = K (kd3 n) := by
  cases n with
  | zero => rfl
  | succ n => cases n <;> rfl
noncomputable def k4K (n : Nat) (K : Kd4 → Bool) : Bool := Nat.rec (motive := fun _ => Bool) (K .pure) (fun n _ => Nat.rec (motive := fun _ => Bool) (K .load) (fun n _ => Nat.rec (motive := fun _ => Bool) (K .eff) (fun n _ => Nat.rec (motive := fun _ => Bool) (K .ann) (fun _ _ => K .real) n) n) n) n
theorem k4K_eq (n : Nat) (K : Kd4 → Bool) : k4K n K = K (kd4 n) := by
  cases n with
  | zero => rfl
  | succ n => cases n with
    | zero => rfl
    | succ n => cases n with
      | zero => rfl
      | succ n => cases n <;> rfl
noncomputable def decA (l : List Nat) : (List (Nat × Kd3) → Bool) → Bool := List.rec (motive := fun _ => (List (Nat × Kd3) → Bool) → Bool) (fun K => K []) (fun n _ ih K => natK (Nat.div n 8) fun i => k3K (Nat.mod n 8) fun k => ih fun r => K ((i, k) :: r)) l
theorem decA_eq : ∀ (l : List Nat) (K : List (Nat × Kd3) → Bool), decA l K = K (toA l)
  | [], _ => rfl
  | n :: l, K => by
    show natK (Nat.div n 8) (fun i => k3K (Nat.mod n 8) fun k => decA l fun r => K ((i, k) :: r)) = _
    rw [natK_eq, k3K_eq, decA_eq l]
    rfl
noncomputable def decB (l : List Nat) : (List (Nat × Kd4) → Bool) → Bool := List.rec (motive := fun _ => (List (Nat × Kd4) → Bool) → Bool) (fun K => K []) (fun n _ ih K => natK (Nat.div n 8) fun i => k4K (Nat.mod n 8) fun k => ih fun r => K ((i, k) :: r)) l
theorem decB_eq : ∀ (l : List Nat) (K : List (Nat × Kd4) → Bool), decB l K = K (toB l)
  | [], _ => rfl
  | n :: l, K => by
    show natK (Nat.div n 8) (fun i => k4K (Nat.mod n 8) fun k => decB l fun r => K ((i, k) :: r)) = _
    rw [natK_eq, k4K_eq, decB_eq l]
    rfl
def okR (o : Option OrdT) (ops : Array Oper) : Bool := match o with
  | none => true
  | some (.a l) => ordAll ops (toA l)
  | some (.b l) => ordMAll ops (toB l)
/-- The orders told are orders. -/
def okB (tab : Nat → Option OrdT) : Code → Bool
  | .region id ops draw => if draw then okR (tab id) ops else true
  | .seq a b => okB tab a && okB tab b
  | .cond _ a b => okB tab a && okB tab b
  | .block _ c => okB tab c
  | .loop c => okB tab c
  | .scope c => okB tab c
  | .rangeFunc _ _ a b => okB tab a && okB tab b
  | _ => true
structure Par where
  P : Program
  msk : Nat → Nat
  orc : Nat → Option CallF
  tab : Nat → Nat → Option OrdT
def tabN (mask : Nat) : Nat := Nat.shiftRight mask 4096
/-! Loops over functions -/
/-- No loop over a function stands in it. -/
noncomputable def noRF (c : Code) : Bool := Code.rec (motive := fun _ => Bool) true (fun _ _ _ => true) (fun _ _ a b => andK a b) (fun _ _ _ a b => andK a b) (fun _ _ a => a) (fun _ a => a) (fun _ _ _ _ _ _ => false) (fun _ => true) (fun _ _ => false) (fun _ => true) (fun _ => true) true (fun _ => true) c
/-- The loop's record. -/
noncomputable def lpK (H : Hp) (id : Nat) (K : En → Array Tmp → Code → Code → Nat → Nat → LoopState → Option Code → Bool) : Bool := optK (H.t.get id) fun b => Blk.rec (motive := fun _ => Bool) (fun _ _ _ => false) (fun _ _ _ => false) (fun _ _ => false) (fun _ _ _ => false) (fun E ps a b mask N st pd => K E ps a b mask N st pd) (fun _ _ _ _ => false) b
theorem lpK_sound {H : Hp} {id : Nat} {K : En → Array Tmp → Code → Code → Nat → Nat → LoopState → Option Code → Bool} (h : lpK H id K = true) : ∃ E ps a b mask N st pd, H.t.get id = some (.lp E ps a b mask N st pd) ∧ K E ps a b mask N st pd = true := by
  obtain ⟨b, h1, h2⟩ := optK_sound h
  cases b with
  | lp E ps a b mask N st pd => exact ⟨E, ps, a, b, mask, N, st, pd, h1, h2⟩
  | _ => cases h2
noncomputable def readyK (st : LoopState) (x : Bool) : Bool := LoopState.rec (motive := fun _ => Bool) x false false false st
theorem readyK_sound {st : LoopState} {x : Bool} (h : readyK st x = true) : st = .ready ∧ x = true := by
  cases st with
  | ready => exact ⟨rfl, h⟩
  | _ => cases h
noncomputable def restK (st : LoopState) (x : Bool) : Bool := LoopState.rec (motive := fun _ => Bool) x false x x st
theorem restK_sound {st : LoopState} {x : Bool} (h : restK st x = true) : st ≠ .busy ∧ x = true := by
  cases st with
  | busy => cases h
  | _ => exact ⟨nofun, h⟩
/-- The loop's variables. -/
noncomputable def bindP (ps : List Tmp) (N mask : Nat) : AV → En → (En → Bool) → Bool := List.rec (motive := fun _ => AV → En → (En → Bool) → Bool) (fun l E K => asNil l (K E))
  (fun t _ ih l E K => asCons l fun v r => andK (Nat.blt t N) (forceK v fun v => Bool.rec (motive := fun _ => Bool) (ih r E K) (delK E t fun E => ih r (.cons t v E) K) (keepB mask t))) ps
noncomputable def begK (H : Hp) (id : Nat) (K : Hp → Bool) : Bool := lpK H id fun E ps a b mask N st pd => readyK st (turnO H id (.lp E ps a b mask N .busy pd) K)
noncomputable def endK (H : Hp) (id : Nat) (st' : LoopState) (pd' : Option Code) (K : Hp → Bool) : Bool := lpK H id fun E ps a b mask N _ _ => turnO H id (.lp E ps a b mask N st' pd') K
noncomputable def yieldF (p : Par) (ih : IH) (id : Nat) (l : AV) (H : Hp) (K : HK) : Bool := lpK H id fun E ps assign body mask N st _ => readyK st (andK (noRF assign) (andK (noRF body) (andK (okB (p.tab (tabN mask)) assign) (andK (okB (p.tab (tabN mask)) body) (bindP ps.toList N mask l E fun E1 => ih assign mask N E1 H fun x E2 H2 => xCase x
  (begK H2 id fun H3 => ih body mask N E2 H3 fun y _ H4 => xCase y (endK H4 id .ready none fun H => K (.b true) H) (fun j => endK H4 id .done (some (.exit j)) fun H => K (.b false) H) (endK H4 id .done (some .ret) fun H => K (.b false) H)) (fun _ => false) false)))))
noncomputable def jumpK (pd : Option Code) (a : Bool) (b : Nat → Bool) (c : Bool) : Bool := Option.rec (motive := fun _ => Bool) a (fun q => Code.rec (motive := fun _ => Bool) false (fun _ _ _ => false) (fun _ _ _ _ => false) (fun _ _ _ _ _ => false) (fun _ _ _ => false) (fun _ _ => false) (fun _ _ _ _ _ _ => false) b (fun _ _ => false) (fun _ => false) (fun _ => false) c (fun _ => false) q) pd
theorem jumpK_sound {pd : Option Code} {a : Bool} {b : Nat → Bool} {c : Bool} (h : jumpK pd a b c = true) : (pd = none ∧ a = true) ∨ (∃ j, pd = some (.exit j) ∧ b j = true) ∨ (pd = some .ret ∧ c = true) := by
  cases pd with
  | none => exact .inl ⟨rfl, h⟩
  | some q => cases q with
    | exit j => exact .inr (.inl ⟨j, rfl, h⟩)
    | ret => exact .inr (.inr ⟨rfl, h⟩)
    | _ => cases h
noncomputable def cRange (g : Operand) (ps : Array Tmp) (assign body : Code) (ih : IH) (p : Par) (mask N : Nat) (E : En) (H : Hp) (K : CK) : Bool := fvK (opV g .nil E) fun f caps => fnK f fun gf => Option.rec (motive := fun _ => Bool)
  (newO H (.lp E ps assign body mask N .ready none) fun id H => callF ih p.P p.msk p.orc gf (.cons (.fn (.yield id) .nil) caps) H fun _ H => lpK H id fun _ _ _ _ _ _ st pd => restK st (dropK1 H id fun H => jumpK pd (K .norm E H) (fun j => K (.ex j) E H) (K .ret E H)))
  (fun _ => false) (p.orc gf)
noncomputable def cRegion (_id : Nat) (ops : Array Oper) (draw : Bool) (ih : IH) (p : Par) (mask N : Nat) (E : En) (H : Hp) (K : CK) : Bool := andK (dstAll N ops) (andK (noDef ops) (Bool.rec (motive := fun _ => Bool)
  (evOps ops.toList ops p.P ⟨callF ih p.P p.msk p.orc, yieldF p ih⟩ .nil E H fun L H => flushK mask L E fun E => K .norm E H)
  (Option.rec (motive := fun _ => Bool)
  (Bool.rec (motive := fun _ => Bool) ((fun l => andK (ordMAll ops l) (evM l ops p.P (callF ih p.P p.msk p.orc) .nil [] .nil E H fun L H => flushK mask L E fun E => K .norm E H)) (order4 p.P ops)) (evDraw (mkOrd p.P ops ops.size (Array.replicate ops.size false)) ops p.P (callF ih p.P p.msk p.orc) .nil .nil E H fun L H => flushK mask L E fun E => K .norm E H) (ordAll ops (mkOrd p.P ops ops.size (Array.replicate ops.size false))))
  (fun o => OrdT.rec (motive := fun _ => Bool) (fun l => decA l fun l => evDraw l ops p.P (callF ih p.P p.msk p.orc) .nil .nil E H fun L H => flushK mask L E fun E => K .norm E H) (fun l => decB l fun l => evM l ops p.P (callF ih p.P p.msk p.orc) .nil [] .nil E H fun L H => flushK mask L E fun E => K .norm E H) o) (p.tab (tabN mask) _id)) draw))
noncomputable def cSeq (a b : Code) (ih : IH) (_p : Par) (mask N : Nat) (E : En) (H : Hp) (K : CK) : Bool := ih a mask N E H fun x E H => xCase x (ih b mask N E H K) (fun id => K (.ex id) E H) (K .ret E H)
noncomputable def cCond (c : Operand) (a b : Code) (ih : IH) (_p : Par) (mask N : Nat) (E : En) (H : Hp) (K : CK) : Bool := asB (opV c .nil E) fun t => ih (Bool.rec (motive := fun _ => Code) b a t) mask N E H K
noncomputable def cBlock (id : Nat) (c : Code) (ih : IH) (_p : Par) (mask N : Nat) (E : En) (H : Hp) (K : CK) : Bool := ih c mask N E H fun x E H => xCase x (K .norm E H) (fun j => Bool.rec (motive := fun _ => Bool) (K (.ex j) E H) (K .norm E H) (Nat.beq j id)) (K .ret E H)
noncomputable def cLoop (c : Code) (ih : IH) (_p : Par) (mask N : Nat) (E : En) (H : Hp) (K : CK) : Bool := ih c mask N E H fun x E H => xCase x (ih (.loop c) mask N E H K) (fun id => K (.ex id) E H) (K .ret E H)
noncomputable def stepC (c : Code) : IH → Par → Nat → Nat → En → Hp → CK → Bool := Code.rec (motive := fun _ => IH → Par → Nat → Nat → En → Hp → CK → Bool)
  (fun _ _ _ _ E H K => K .norm E H) cRegion (fun a b _ _ => cSeq a b) (fun c a b _ _ => cCond c a b) (fun id c _ => cBlock id c) (fun c _ => cLoop c) (fun g ps a b _ _ => cRange g ps a b)
  (fun id _ _ _ _ E H K => K (.ex id) E H) (fun c _ ih _ mask N E H K => ih c mask N E H K) (fun _ _ _ _ _ E H K => K .norm E H) (fun _ _ _ _ _ _ _ _ => false) (fun _ _ _ _ E H K => K .ret E H) (fun _ _ _ _ _ _ _ _ => false) c
noncomputable def evC (p : Par) (n : Nat) : IH := Nat.rec (motive := fun _ => IH) (fun _ _ _ _ _ _ => false) (fun _ ih c mask N E H K => stepC c ih p mask N E H K) n
/-- What is asked of the parameters. -/
structure ParOk (p : Par) : Prop where
  name : ∀ (f : Nat) (fn : Func), p.P.funcs[f]? = some fn → (fn.name == "runtime.NumGoroutine") = false
  mixed : p.P.follows .mixedOrders = true
  tabs : ∀ (f : Nat) (fn : Func) (c : Code), p.P.funcs[f]? = some fn → fn.body = some c → okB (p.tab (tabN (p.msk f))) c = true
  orc : ∀ f F, p.orc f = some F → ∀ l H K m w W0 Fr vs, Inv1 m H → Mem W0 m H Fr w → relL m l vs → F f l H K = true → CallRes p.P f vs w W0 Fr m K
/-- The blocks for the rounds' deferred calls: none. -/
def dfA : List Deferred → Assn → Assn
  | [], Fr => Fr
  | d :: ds, Fr => sep [fun h => ∃ b, d.target = .collected b ∧ blk b (.deferred (some [])) h, dfA ds Fr]
theorem dfA_drop : ∀ (ds : List Deferred) (Fr : Assn), Ent (dfA ds Fr) Fr
  | [], Fr => Ent.refl _
  | d :: ds, Fr => (Ent.drop _ _).trans ((Ent.head _ _).trans (dfA_drop ds Fr))
theorem Mem.noDf {W0 : World} {m : Map} {H : Hp} {ds : List Deferred} {Fr : Assn} {w : World} (h : Mem W0 m H (dfA ds Fr) w) : Mem W0 m H Fr w :=
  h.mono (Ent.append (Ent.refl _) (Ent.cons (dfA_drop ds Fr) (Ent.refl _)))
theorem Ent.tail2 {L : List Assn} {A B : Assn} : Ent (sep (L ++ [sep [A, B]])) (sep (A :: (L ++ [B]))) := by
  refine (Ent.perm (List.perm_append_comm (l₁ := L) (l₂ := [sep [A, B]]))).trans ?_
  refine (Ent.flat [A, B] L).trans ?_
  exact Ent.cons (Ent.refl _) (Ent.perm (List.perm_append_comm (l₁ := [B]) (l₂ := L)))
theorem Ent.untail2 {L : List Assn} {A B : Assn} : Ent (sep (A :: (L ++ [B]))) (sep (L ++ [sep [A, B]])) := by
  refine (Ent.cons (Ent.refl _) (Ent.perm (List.perm_append_comm (l₁ := L) (l₂ := [B])))).trans ?_
  refine (Ent.unflat [A, B] L).trans ?_
  exact Ent.perm (List.perm_append_comm (l₁ := [sep [A, B]]) (l₂ := L))
def QX (N : Nat) (W0 : World) (Fr : Assn) (mask : Nat) (m : Map) (K : CK) (x : Exit) (a' : Act) (w' : World) : Prop :=
  ∃ X e' m' E' H' ds', xr X x ∧ @EnvD ⟨ds'⟩ N a' e' ∧ Map.le m m' ∧ Inv1 m' H' ∧ EnvRel m' .nil E' e' ∧ NK mask E' ∧ Mem W0 m' H' (dfA ds' Fr) w' ∧ K X E' H' = true
theorem QX.mono {N : Nat} {W0 : World} {Fr : Assn} {mask : Nat} {m m' : Map} {K : CK} {x : Exit} {a : Act} {w : World} (hm : Map.le m m') (h : QX N W0 Fr mask m' K x a w) : QX N W0 Fr mask m K x a w := by
  obtain ⟨X, e', m2, E', H', ds', h1, h2, h3, h4⟩ := h
  exact ⟨X, e', m2, E', H', ds', h1, h2, Map.le_trans hm h3, h4⟩
def SndC (p : Par) (n : Nat) : Prop := ∀ (ro : Option Nat) (k : Nat) (ds : List Deferred) (c : Code) (mask N : Nat) (E : En) (H : Hp) (K : CK) (m : Map) (a : Act) (w W0 : World) (Fr : Assn) (e : Env), (ro.isSome = true → noRF c = true) → okB (p.tab (tabN mask)) c = true → @EnvD ⟨ds⟩ N a e → EnvRel m .nil E e → NK mask E → Inv1 m H → Mem W0 m H (dfA ds Fr) w → evC p n c mask N E H K = true →
  c.wpIn (FW ro) k p.P (QX N W0 Fr mask m K) a w ∧ ∀ c', c = .loop c' → Code.roundsIn (FW ro) k p.P c' (QX N W0 Fr mask m K) n a w
section
variable {p : Par}
theorem load_result {P : Program} {e : Env} {tmps : Array Value} {m : Map} {w : World} {E : En} {t : TypeId} {a : Nat} {H : Hp} {K : AV → Bool} (ht : ∀ t, tmps.getD t undef = e t) (he : EnvRel m .nil E e) (h : lLoad t (.tmp a) P .nil E H K = true) (hl : LS P e ⟨none, .load t (.tmp a), t, "", #[], none⟩ m w K) : ∃ av v, (resVar tmps (.cell a t)).run P w = .ok v w ∧ rel m av v ∧ K av = true := by
  obtain ⟨av, v, h1, h2, h3⟩ := hl
  refine ⟨av, v, ?_, h2, h3⟩
  obtain ⟨id, off, g1⟩ := lLoad_ptr h
  obtain ⟨b, c, _, r2⟩ := (opR he g1 : rel m (.p id off) _)
  have r2 : e a = .pointer (some ⟨b, off, none⟩) := r2
  have h1 : (do let v ← Instr.loadAt t (e a); pure (Next.value v) : Sem Next).run P w = .ok (.value v) w := h1
  rw [r2] at h1
  simp only [Instr.loadAt, Instr.sureAddr, Sem.run_bind, Sem.run_pure, Result.andThen_ok] at h1
  simp only [resVar, ht, r2, asAddr, Sem.run_bind, Sem.run_pure, Result.andThen_ok]
  cases hx : (loadVar t ⟨b, off, none⟩).run P w with
  | ok v' w' => rw [hx] at h1; simp only [Result.andThen_ok, Sem.run_pure] at h1; cases h1; rfl
  | halt x w' => rw [hx] at h1; cases h1
theorem resL_sound {m : Map} {E : En} {e : Env} {P : Program} {tmps : Array Value} {W0 w : World} {H : Hp} {Fr : Assn} (ht : ∀ t, tmps.getD t undef = e t) (he : EnvRel m .nil E e) (hi : Inv1 m H) (hs : Mem W0 m H Fr w) : ∀ {rs : List ResultVar} {K : AV → Bool}, resL rs P E H K = true → ∃ l vs, relL m l vs ∧ K l = true ∧ (rs.mapM (resVar tmps)).run P w = .ok vs w
  | [], K, h => ⟨.nil, [], rfl, h, rfl⟩
  | r :: rs, K, h => by
    cases r with
    | tmp t =>
      have h : forceK (look .nil E t) (fun v => resL rs P E H fun l => K (.cons v l)) = true := h
      rw [forceK_eq] at h
      obtain ⟨l, vs, h1, h2, h3⟩ := resL_sound ht he hi hs h
      refine ⟨.cons (look .nil E t) l, e t :: vs, ⟨e t, vs, he t, h1, rfl⟩, h2, ?_⟩
      rw [List.mapM_cons]
      simp only [resVar, Sem.run_bind, Sem.run_pure, Result.andThen_ok]
      rw [h3]
      simp only [Result.andThen_ok, ht]
    | cell a t =>
      have h : lLoad t (.tmp a) P .nil E H (fun v => forceK v fun v => resL rs P E H fun l => K (.cons v l)) = true := h
      obtain ⟨av, v, g1, g2, g3⟩ := load_result ht he h (lLoad_sound rfl hi he hs h)
      rw [forceK_eq] at g3
      obtain ⟨l, vs, h1, h2, h3⟩ := resL_sound ht he hi hs g3
      refine ⟨.cons av l, v :: vs, ⟨v, vs, g2, h1, rfl⟩, h2, ?_⟩
      rw [List.mapM_cons]
      simp only [Sem.run_bind, Sem.run_pure, g1, Result.andThen_ok]
      rw [h3]
      simp only [Result.andThen_ok]
theorem tupK_sound {m : Map} {l : AV} {vs : List Value} {K : AV → Bool} (hr : relL m l vs) (h : tupK l K = true) : ∃ v, rel m v (tupled vs) ∧ K v = true := by
  cases l with
  | nil => cases hr; exact ⟨.tup .nil, ⟨[], rfl, rfl⟩, h⟩
  | cons x t =>
    obtain ⟨u, us, h1, h2, rfl⟩ := hr
    rcases isNilL_sound (c := t) h with ⟨rfl, h3⟩ | h3
    · have h2 : us = [] := h2
      subst h2
      exact ⟨x, h1, h3⟩
    · cases us with
      | nil =>
        cases t with
        | nil => exact ⟨x, h1, (show isNilL .nil (K x) (K (.tup (.cons x .nil))) = true from h)⟩
        | cons y z => obtain ⟨_, _, _, _, g⟩ := h2; cases g
        | _ => exact h2.elim
      | cons y ys => exact ⟨.tup (.cons x t), ⟨u :: y :: ys, ⟨u, _, h1, h2, rfl⟩, rfl⟩, h3⟩
  | _ => exact hr.elim
theorem leavesM {P : Program} {n : Nat} {fn : Func} {tmps : Array Value} {R : Ending → World → Prop} {W0 : World} {m : Map} {H : Hp} {Fr : Assn} : ∀ (ds : List Deferred) (w : World), Mem W0 m H (dfA ds Fr) w →
    (∀ w', Mem W0 m H Fr w' → ∃ v, (results fn tmps).run P w' = .ok v w' ∧ R (.returned v) w') → LeavesInM Fence.wide n P fn tmps R ds .returning w
  | [], w, hs, h => h w hs
  | d :: ds, w, hs, h => by
    have s1 := hs.mono (Ent.tail2 (L := hpA m H.t))
    obtain ⟨b, hb, s2⟩ : ∃ b, d.target = .collected b ∧ Sat W0 (sep (blk b (.deferred (some [])) :: (hpA m H.t ++ [dfA ds Fr]))) w := by
      obtain ⟨k0, x, hx, q1, q2, dj, rfl, ⟨b, hb, ha⟩, hr⟩ := s1
      exact ⟨b, hb, k0, _, hx, q1, q2, dj, rfl, ha, hr⟩
    have hg := s2.get (i := 0) rfl
    have hlt : b < w.heap.size := by
      rcases Nat.lt_or_ge b w.heap.size with g | g
      · exact g
      · rw [Array.getElem?_eq_none g] at hg; cases hg
    have s3 : Sat W0 (sep (blk b (.deferred none) :: (hpA m H.t ++ [dfA ds Fr]))) (w.putObj b (.deferred none)) :=
      s2.put (i := 0) rfl ⟨rfl, rfl, rfl, by simp⟩ (World.putObj_heap_same hlt) (fun k hk _ => World.putObj_heap_other hk)
    exact ⟨nofun, .inl ⟨b, _, hb, run_takeDeferred hg, leavesM ds _ (s3.mono (Ent.drop _ _)) h⟩⟩
theorem callFn_ok {n : Nat} (hp : ParOk p) (hs : SndC p n) {f : Nat} {l : AV} {H : Hp} {K : HK} {m : Map} {w W0 : World} {Fr : Assn} {vs : List Value} (ho : p.orc f = none) (hi : Inv1 m H) (hm : Mem W0 m H Fr w) (hr : relL m l vs) (h : callF (evC p n) p.P p.msk p.orc f l H K = true) :
    Callable p.P f ∧ Calls p.P f vs.toArray w fun en w' => ∃ v, en = .returned v ∧ Post1 W0 Fr m K v w' := by
  unfold callF at h
  rw [ho] at h
  obtain ⟨⟨c, N, rs⟩, h1, h2⟩ := optK_sound (o := fnB p.P f) h
  unfold fnB at h1
  split at h1
  · rename_i fn hfn
    split at h1
    · rename_i c' hb
      simp only [Option.some.injEq, Prod.mk.injEq] at h1
      obtain ⟨rfl, rfl, rfl⟩ := h1
      refine ⟨⟨fn, hfn, hp.name f fn hfn, by rw [hb]; rfl⟩, ?_⟩
      refine (callsIn_wide (n := 0)).1 (callsIn_of_wp_marks hfn hb trivial ?_)
      obtain ⟨h3, h4⟩ := andK_sound h2
      have hle : vs.length ≤ fn.ntmps := by rw [← lenL_rel hr]; exact Nat.le_of_ble_eq_true h3
      obtain ⟨E, h5, h6, h7⟩ := bindK_sound (m := m) (mask := p.msk f) (all := vs) hr (fun j u hj => by rwa [Nat.zero_add]) (fun t => by rw [look_nil]; trivial) (fun t _ => rfl) h4
      have hw := (hs none 0 [] c' (p.msk f) fn.ntmps E H _ m _ w W0 Fr (envOf vs) (fun g => by cases g) (hp.tabs f fn c' hfn hb) (Evl.EnvOk.d (EnvOk.enter hle)) h6 h7 hi hm h5).1
      refine wpIn_mono hw ?_
      rintro x a' w' ⟨X, e', m', E', H', ds', k1, k2, k3, k4, k5, k6, k7, k8⟩
      have fin : resL fn.results.toList p.P E' H' (fun l => tupK l fun v => K v H') = true → LeavesInM Fence.wide 0 p.P fn a'.tmps (fun en w' => ∃ v, en = .returned v ∧ Post1 W0 Fr m K v w') a'.defers .returning w' := by
        intro hf
        rw [show a'.defers = ds' from @EnvD.defers ⟨ds'⟩ _ _ _ k2]
        refine leavesM ds' w' k7 fun w2 hw2 => ?_
        obtain ⟨l', vs', g1, g2, g3⟩ := resL_sound (P := p.P) (w := w2) (@EnvD.get ⟨ds'⟩ _ _ _ k2) k5 k4 hw2 hf
        obtain ⟨v, g4, g5⟩ := tupK_sound g1 g2
        exact ⟨_, results_run g3, _, rfl, m', H', v, k3, k4, g4, hw2, g5⟩
      cases X with
      | norm => have k1 : x = .normal := k1; subst k1; exact fin k8
      | ret => have k1 : x = .ret := k1; subst k1; exact fin k8
      | ex id => cases k8
    · cases h1
  · cases h1
/-! Rounds -/
theorem bindP_sound {m : Map} {mask N : Nat} : ∀ {ps : List Tmp} {l : AV} {E : En} {K : En → Bool} {vs : List Value} {tmps : Array Value}, relL m l vs → tmps.size = N → EnvRel m .nil E (fun t => tmps.getD t undef) → NK mask E → bindP ps N mask l E K = true →
    vs.length = ps.length ∧ ∃ E', K E' = true ∧ NK mask E' ∧ ((ps.zip vs).foldl (fun t (q : Tmp × Value) => t.setIfInBounds q.1 q.2) tmps).size = N ∧ EnvRel m .nil E' (fun t => ((ps.zip vs).foldl (fun t (q : Tmp × Value) => t.setIfInBounds q.1 q.2) tmps).getD t undef)
  | [], l, E, K, vs, tmps, hr, hN, he, hn, h => by
    obtain ⟨rfl, h2⟩ := asNil_sound (v := l) h
    have hr : vs = [] := hr
    subst hr
    exact ⟨rfl, E, h2, hn, hN, he⟩
  | t :: ps, l, E, K, vs, tmps, hr, hN, he, hn, h => by
    obtain ⟨v, r, rfl, h2⟩ := asCons_sound (v := l) h
    obtain ⟨h3, h4⟩ := andK_sound h2
    rw [forceK_eq] at h4
    obtain ⟨u, us, r1, r2, rfl⟩ := hr
    have ht : t < tmps.size := by rw [hN]; exact blt_lt h3
    have hget : ∀ x, (tmps.setIfInBounds t u).getD x undef = if x = t then u else tmps.getD x undef := fun x => by
      simp only [Array.getD_eq_getD_getElem?]
      by_cases g : x = t
      · subst g; simp [ht]
      · rw [if_neg g, Array.getElem?_setIfInBounds_ne (Ne.symm g)]
    cases hk : keepB mask t with
    | true =>
      rw [hk] at h4
      have h4 : delK E t (fun E => bindP ps N mask r (.cons t v E) K) = true := h4
      rw [delK_eq] at h4
      have := bindP_sound (ps := ps) (tmps := tmps.setIfInBounds t u) r2 (by simpa using hN) (fun x => by
        show rel m (look .nil (.cons t v (E.del t)) x) ((tmps.setIfInBounds t u).getD x undef)
        rw [look_nilc, hget x]
        by_cases g : x = t
        · rw [if_pos g, if_pos g]; exact r1
        · rw [if_neg g, if_neg g, look_del _ _ _ g]; exact he x) (fun x hx => by
        rw [look_nilc, if_neg (fun g => by rw [g, hk] at hx; cases hx), look_del _ _ _ (fun g => by rw [g, hk] at hx; cases hx)]
        exact hn x hx) h4
      exact ⟨by simp [this.1], this.2⟩
    | false =>
      rw [hk] at h4
      have h4 : bindP ps N mask r E K = true := h4
      have := bindP_sound (ps := ps) (tmps := tmps.setIfInBounds t u) r2 (by simpa using hN) (fun x => by
        show rel m (look .nil E x) ((tmps.setIfInBounds t u).getD x undef)
        rw [hget x]
        by_cases g : x = t
        · rw [if_pos g, g, hn t hk]; trivial
        · rw [if_neg g]; exact he x) hn h4
      exact ⟨by simp [this.1], this.2⟩
/-- The record turned. -/
theorem lp_turn {W0 w : World} {m : Map} {H : Hp} {Fr : Assn} {id b c : Nat} {E : En} {ps : Array Tmp} {A B : Code} {mask N : Nat} {st : LoopState} {pd : Option Code} (hi : Inv1 m H) (hs : Mem W0 m H Fr w) (hb : m id = some (b, c)) (hg : H.t.get id = some (.lp E ps A B mask N st pd)) :
    ∃ r : Loop, w.heap[b]? = some (.loop r) ∧ r.state = st ∧ r.pending = pd ∧ r.params = ps ∧ r.assign = A ∧ r.body = B ∧ r.tmps.size = N ∧ EnvRel m .nil E (fun t => r.tmps.getD t undef) ∧ NK mask E ∧
      (∀ st' pd', Mem W0 m ⟨H.next, Tr.set (some (.lp E ps A B mask N st' pd')) H.t id⟩ Fr (w.putObj b (.loop { r with state := st', pending := pd' }))) ∧
      ∀ o, Mem W0 m ⟨H.next, Tr.set none H.t id⟩ Fr (w.putObj b o) := by
  obtain ⟨R, h1, h2, h3⟩ := hp_lens (Fr := Fr) H.t id (hi.1.pos hi.2 hb)
  have s1 := hs.mono (h1 m _ hg)
  obtain ⟨k0, x, hx, q1, q2, dj, rfl, ⟨b', cap, o, g1, ⟨fn, tmps, d, e, g2, g3, g4, g5, rfl⟩, g6⟩, hl⟩ := s1
  have hbb : b' = b := by rw [g1] at hb; cases hb; rfl
  subst hbb
  have s2 : Sat W0 (sep (blk b' (.loop { state := st, pending := pd, fn := fn, tmps := tmps, params := ps, assign := A, body := B, defers := d }) :: (R.map (asn m) ++ [Fr]))) w := ⟨k0, _, hx, q1, q2, dj, rfl, g6, hl⟩
  have hh := s2.get (i := 0) rfl
  have hlt : b' < w.heap.size := by
    rcases Nat.lt_or_ge b' w.heap.size with g | g
    · exact g
    · rw [Array.getElem?_eq_none g] at hh; cases hh
  have put : ∀ o, Sat W0 (sep (blk b' o :: (R.map (asn m) ++ [Fr]))) (w.putObj b' o) := fun o =>
    s2.put (i := 0) rfl ⟨rfl, rfl, rfl, by simp⟩ (World.putObj_heap_same hlt) (fun k hk _ => World.putObj_heap_other hk)
  have he : e = fun t => tmps.getD t undef := by funext t; exact (g3 t).symm
  subst he
  refine ⟨_, hh, rfl, rfl, rfl, rfl, rfl, g2, g4, g5, fun st' pd' => ?_, fun o => ((put o).mono (Ent.drop _ _)).mono (h3 m)⟩
  refine ((put _).mono (Ent.cons (Ent.of_imp fun h hb => ?_) (Ent.refl _))).mono (h2 m (.lp E ps A B mask N st' pd'))
  exact ⟨b', cap, _, g1, ⟨fn, tmps, d, _, g2, g3, g4, g5, rfl⟩, hb⟩
theorem yield_ok {n : Nat} (hs : SndC p n) {id : Nat} {l : AV} {H : Hp} {K : HK} {m : Map} {w W0 : World} {Fr : Assn} {vs : List Value} {b c : Nat} (hi : Inv1 m H) (hm : Mem W0 m H Fr w) (hr : relL m l vs) (hb : m id = some (b, c)) (h : yieldF p (evC p n) id l H K = true) : RoundRes p.P b vs w W0 Fr m K := by
  obtain ⟨E, ps, A, B, mask, N, st, pd, h1, h2⟩ := lpK_sound h
  obtain ⟨rfl, h3⟩ := readyK_sound h2
  obtain ⟨hA, h4⟩ := andK_sound h3
  obtain ⟨hB, h5⟩ := andK_sound h4
  obtain ⟨tA, h5⟩ := andK_sound h5
  obtain ⟨tB, h5⟩ := andK_sound h5
  obtain ⟨r, g1, g2, g3, g4, g5, g6, g7, g8, g9, g10, _⟩ := lp_turn hi hm hb h1
  obtain ⟨k1, E1, k2, k3, k4, k5⟩ := bindP_sound hr g7 g8 g9 h5
  have hsz : vs.toArray.size = r.params.size := by rw [g4]; simpa using k1
  have hy := run_yield (P := p.P) g1 hsz
  have hfold : (r.params.zip vs.toArray).foldl (fun tmps (x : Tmp × Value) => match x with | (t, a) => tmps.setIfInBounds t a) r.tmps = (ps.toList.zip vs).foldl (fun t (q : Tmp × Value) => t.setIfInBounds q.1 q.2) r.tmps := by
    rw [g4, ← Array.foldl_toList, Array.toList_zip]
  refine ⟨r.fn, _, r.assign, r.body, hy, fun nn => ?_⟩
  refine roundIn_of_wpIn (F := Fence.wide) trivial ?_
  rw [g5, g6, hfold]
  have hw := (hs (some b) nn [] A mask N E1 H _ m { tmps := (ps.toList.zip vs).foldl (fun t (q : Tmp × Value) => t.setIfInBounds q.1 q.2) r.tmps, defers := [] } w W0 Fr _ (fun _ => hA) tA (@EnvD.mk ⟨[]⟩ N _ _ rfl k4 (fun t => rfl)) k5 k3 hi hm k2).1
  refine wpIn_mono hw ?_
  rintro x a1 w1 ⟨X, e1, m1, E2, H2, ds1, q1, q2, q3, q4, q5, q6, q7, q8⟩
  cases X with
  | ex j => cases q8
  | ret => cases q8
  | norm =>
    have q1 : x = .normal := q1
    subst q1
    have q8 : begK H2 id _ = true := q8
    obtain ⟨E', ps', A', B', mask', N', st', pd', u1, u2⟩ := lpK_sound q8
    obtain ⟨rfl, u3⟩ := readyK_sound u2
    rw [turnO_eq] at u3
    obtain ⟨r', v1, v2, _, _, _, _, _, _, _, v10, _⟩ := lp_turn q4 q7 (q3 _ _ hb) u1
    refine ⟨_, run_beginRound v1 v2, ?_⟩
    have hm3 := v10 .busy pd'
    have hreq : ({ r' with state := LoopState.busy, pending := pd' } : Loop) = { r' with state := .busy } := by
      have : r'.pending = pd' := by assumption
      rw [← this]
    rw [hreq] at hm3
    have hw2 := (hs (some b) nn ds1 B mask N E2 _ _ m1 a1 _ W0 Fr e1 (fun _ => hB) tB q2 q5 q6 (by exact ⟨q4.1.tree _, q4.2⟩) hm3 u3).1
    refine wpIn_mono hw2 ?_
    rintro y a2 w2 ⟨Y, e2, m2, E3, H4, ds2, s1, s2, s3, s4, s5, s6, s7, s8⟩
    have hb2 := s3 _ _ (q3 _ _ hb)
    have fin : ∀ (j : Option Code) (val : AV), endK H4 id (if j.isNone then .ready else .done) j (fun H => K val H) = true → rel m2 val (.bool j.isNone) → ∃ v w', (Instr.endRound b j).run p.P w2 = .ok v w' ∧ ∃ v', (Ending.returned v) = .returned v' ∧ Post1 W0 Fr m K v' w' := by
      intro j val hj hv
      obtain ⟨E'', ps'', A'', B'', mask'', N'', st'', pd'', t1, t2⟩ := lpK_sound hj
      rw [turnO_eq] at t2
      obtain ⟨r2, z1, _, _, _, _, _, _, _, _, z10, _⟩ := lp_turn s4 s7 hb2 t1
      refine ⟨_, _, run_endRound j z1, _, rfl, m2, _, val, Map.le_trans q3 s3, ⟨s4.1.tree _, s4.2⟩, hv, (z10 _ j).noDf, t2⟩
    cases Y with
    | norm => have s1 : y = .normal := s1; subst s1; exact fin none (.b true) s8 rfl
    | ret => have s1 : y = .ret := s1; subst s1; exact fin (some .ret) (.b false) s8 rfl
    | ex j => have s1 : y = .exit j := s1; subst s1; exact fin (some (.exit j)) (.b false) s8 rfl
theorem callF_ok {n : Nat} (hp : ParOk p) (hs : SndC p n) : CallOk True p.P ⟨callF (evC p n) p.P p.msk p.orc, yieldF p (evC p n)⟩ := by
  refine ⟨fun f l H K m w W0 Fr vs hi hm hr h => ?_, fun id l H K m w W0 Fr vs b c hi hm hr hb h => ⟨trivial, yield_ok hs hi hm hr hb h⟩⟩
  have h : callF (evC p n) p.P p.msk p.orc f l H K = true := h
  cases ho : p.orc f with
  | some F => unfold callF at h; rw [ho] at h; exact hp.orc f F ho l H K m w W0 Fr vs hi hm hr h
  | none => exact .inl (callFn_ok hp hs ho hi hm hr h)
theorem callF_no {n : Nat} (hp : ParOk p) (hs : SndC p n) : CallOk False p.P ⟨callF (evC p n) p.P p.msk p.orc, noY⟩ :=
  ⟨(callF_ok hp hs).1, fun id l H K m w W0 Fr vs b c hi hm hr hb h => by cases h⟩
theorem roundsIn_mono {F : Fence} {k : Nat} {c : Code} {Q Q' : Exit → Act → World → Prop} {P : Program} (hq : ∀ x a w, Q x a w → Q' x a w) : ∀ {n : Nat} {a : Act} {w : World}, Code.roundsIn F k P c Q n a w → Code.roundsIn F k P c Q' n a w
  | 0, _, _, h => h
  | n + 1, a, w, h => by
    rw [roundsIn_succ] at h ⊢
    refine wpIn_mono h fun x a w g => ?_
    cases x with
    | normal => exact roundsIn_mono hq g
    | _ => exact hq _ _ _ g
theorem noRF_seq {a b : Code} (h : noRF (.seq a b) = true) : noRF a = true ∧ noRF b = true := andK_sound h
theorem okB_seq {tab : Nat → Option OrdT} {a b : Code} (h : okB tab (.seq a b) = true) : okB tab a = true ∧ okB tab b = true := by simpa [okB] using h
theorem okB_cond {tab : Nat → Option OrdT} {c : Operand} {a b : Code} (h : okB tab (.cond c a b) = true) : okB tab a = true ∧ okB tab b = true := by simpa [okB] using h
theorem noRF_cond {c : Operand} {a b : Code} (h : noRF (.cond c a b) = true) : noRF a = true ∧ noRF b = true := andK_sound h
theorem range_ok {n k : Nat} (hp : ParOk p) (hs : SndC p n) {ds : List Deferred} {g : Operand} {ps : Array Tmp} {A B : Code} {mask N : Nat} {E : En} {H : Hp} {K : CK} {m : Map} {a : Act} {w W0 : World} {Fr : Assn} {e : Env} (ha : @EnvD ⟨ds⟩ N a e) (he : EnvRel m .nil E e) (hn : NK mask E) (hi : Inv1 m H) (hm : Mem W0 m H (dfA ds Fr) w)
    (h : cRange g ps A B (evC p n) p mask N E H K = true) : (Code.rangeFunc g ps A B).wpIn (FW none) k p.P (QX N W0 Fr mask m K) a w := by
  obtain ⟨f, caps, h1, h2⟩ := fvK_sound h
  obtain ⟨gf, rfl, h3⟩ := fnK_sound h2
  cases ho : p.orc gf with
  | some F => rw [ho] at h3; cases h3
  | none =>
    rw [ho] at h3
    have h3 : newO H (.lp E ps A B mask N .ready none) (fun id H => callF (evC p n) p.P p.msk p.orc gf (.cons (.fn (.yield id) .nil) caps) H fun _ H => lpK H id fun _ _ _ _ _ _ st pd => restK st (dropK1 H id fun H => jumpK pd (K .norm E H) (fun j => K (.ex j) E H) (K .ret E H))) = true := h3
    rw [newO_eq] at h3
    obtain ⟨us, gg, r1, hgg, r2⟩ := (opR he h1 : rel m (.fn (.func gf) caps) _)
    have hgg : gg = .func gf := hgg
    subst hgg
    have hg : a.eval g = .func (.func gf) #[] us.toArray := by rw [@EnvD.eval ⟨ds⟩ _ _ _ ha]; exact r2
    refine wpIn_rangeFunc fun fn _ => ?_
    have s1 : Sat W0 (sep (blk w.heap.size (.deferred (some [])) :: (hpA m H.t ++ [dfA ds Fr]))) (w.alloc (.deferred (some []))) := hm.alloc _
    have s2 : Mem W0 m H (dfA ({ target := .collected w.heap.size, args := #[] } :: ds) Fr) (w.alloc (.deferred (some []))) := by
      refine s1.mono ((Ent.cons (Ent.of_imp fun h hb => ?_) (Ent.refl _)).trans (Ent.untail2 (L := hpA m H.t)))
      exact ⟨w.heap.size, rfl, hb⟩
    obtain ⟨k1, k2, k3, k4⟩ := Mem.newO (B := .lp E ps A B mask N .ready none) hi (s2.alloc (.loop { state := .ready, pending := none, fn, tmps := a.tmps, params := ps, assign := A, body := B, defers := w.heap.size }))
      ⟨fn, a.tmps, w.heap.size, e, (@EnvD.size ⟨ds⟩ _ _ _ ha), (@EnvD.get ⟨ds⟩ _ _ _ ha), he, hn, rfl⟩
    rw [World.size_alloc] at k1 k2 k3 k4
    have hc := callFn_ok hp hs (f := gf) (l := .cons (.fn (.yield H.next) .nil) caps) (vs := .func (.yield (w.heap.size + 1)) #[] #[] :: us) ho k2 k4 ⟨_, us, ⟨[], .yield (w.heap.size + 1), rfl, ⟨_, _, k3, rfl⟩, rfl⟩, r1.mono k1, rfl⟩ h3
    refine ⟨w.heap.size + 1, _, _, { target := .fn (.func gf) us.toArray, args := #[.func (.yield (w.heap.size + 1)) #[] #[]] }, ((w.alloc (.deferred (some []))).alloc (.loop { state := .ready, pending := none, fn, tmps := a.tmps, params := ps, assign := A, body := B, defers := w.heap.size })), gf, (Value.func (.yield (w.heap.size + 1)) #[] #[] :: us).toArray, _, run_enterLoop_outer fn a.tmps ps A B, ?_, fun _ _ => trivial, ?_, fun gd => (FW_deep gd).elim, calls_FW (hc.2.mono ?_)⟩
    · simp only [resolve, rangeCall, hg, Deferred.ofValue, Sem.run_bind, Sem.run_pure, Result.andThen_ok]
      simp [Act.eval]
    · simp only [invoke]
      have e1 : #[Value.func (.yield (w.heap.size + 1)) #[] #[]] ++ us.toArray = (Value.func (.yield (w.heap.size + 1)) #[] #[] :: us).toArray := by apply Array.ext'; simp
      rw [e1]
      exact callable_run hc.1
    · rintro en w3 ⟨v, rfl, m3, H3, av, q1, q2, q3, q4, q5⟩
      obtain ⟨E', ps', A', B', mask', N', st', pd', u1, u2⟩ := lpK_sound q5
      obtain ⟨u3, u4⟩ := restK_sound u2
      rw [dropK1_eq] at u4
      obtain ⟨r', v1, v2, v3, _, _, _, _, _, _, _, v11⟩ := lp_turn q2 q4 (q1 _ _ k3) u1
      refine ⟨_, _, run_endLoop v1 (by rw [v2]; exact u3), ?_⟩
      have hm4 := v11 (.loop { r' with state := .exhausted })
      generalize w3.putObj (w.heap.size + 1) (.loop { r' with state := .exhausted }) = w4 at hm4 ⊢
      rw [v3]
      have hle := Map.le_trans k1 q1
      have ha' : @EnvD ⟨{ target := .collected w.heap.size, args := #[] } :: ds⟩ N { a with defers := [{ target := .collected w.heap.size, args := #[] }] ++ a.defers } e :=
        have hz : a.tmps.size = N := @EnvD.size ⟨ds⟩ _ _ _ ha
        have hgt : ∀ t, a.tmps.getD t undef = e t := @EnvD.get ⟨ds⟩ _ _ _ ha
        have hdf : a.defers = ds := @EnvD.defers ⟨ds⟩ _ _ _ ha
        @EnvD.mk ⟨_⟩ N _ _ (by show _ :: a.defers = _ :: ds; rw [hdf]) hz hgt
      have here : ∀ Xx xx, xr Xx xx → K Xx E ⟨H3.next, Tr.set none H3.t H.next⟩ = true → QX N W0 Fr mask m K xx { a with defers := [{ target := .collected w.heap.size, args := #[] }] ++ a.defers } w4 := fun Xx xx hx hk =>
        ⟨Xx, e, m3, E, _, _, hx, ha', hle, ⟨q2.1.tree _, q2.2⟩, he.mono hle, hn, hm4, hk⟩
      rcases jumpK_sound u4 with ⟨rfl, hk⟩ | ⟨j, rfl, hk⟩ | ⟨rfl, hk⟩
      · exact here .norm _ rfl hk
      · exact wpIn_exit (here (.ex j) _ rfl hk)
      · exact wpIn_ret (here .ret _ rfl hk)
theorem evC_sound (hp : ParOk p) : ∀ n, SndC p n
  | 0 => by intro ro k ds c mask N E H K m a w W0 Fr e _ _ _ _ _ _ _ h; cases h
  | n + 1 => by
    intro ro k ds c mask N E H K m a w W0 Fr e hrf hok ha he hn hi hs h
    have ih := evC_sound hp n
    letI : Dfs := ⟨ds⟩
    have hcall := callF_ok hp ih
    have hcallN := callF_no hp ih
    have h : stepC c (evC p n) p mask N E H K = true := h
    have here : ∀ X x, xr X x → K X E H = true → QX N W0 Fr mask m K x a w := fun X x hx hk => ⟨X, e, m, E, H, ds, hx, ha, Map.le_refl m, hi, he, hn, hs, hk⟩
    have lnot : (∀ c', c ≠ .loop c') → ∀ c', c = .loop c' → Code.roundsIn (FW ro) k p.P c' (QX N W0 Fr mask m K) (n + 1) a w := fun g c' hc => absurd hc (g c')
    cases c with
    | skip => exact ⟨wpIn_skip (here .norm _ rfl h), lnot (by intro c'; nofun)⟩
    | label l => exact ⟨wpIn_label (here .norm _ rfl h), lnot (by intro c'; nofun)⟩
    | ret => exact ⟨wpIn_ret (here .ret _ rfl h), lnot (by intro c'; nofun)⟩
    | exit id => exact ⟨wpIn_exit (here (.ex id) _ rfl h), lnot (by intro c'; nofun)⟩
    | seq x y =>
      refine ⟨wpIn_seq (wpIn_mono (ih ro k ds x mask N E H _ m a w W0 Fr e (fun g => (noRF_seq (hrf g)).1) (okB_seq hok).1 ha he hn hi hs h).1 ?_), lnot (by intro c'; nofun)⟩
      rintro ex a' w' ⟨X, e', m', E', H', ds', k1, k2, k3, k4, k5, k6, k7, k8⟩
      cases X with
      | norm => have k1 : ex = .normal := k1; subst k1; exact wpIn_mono (ih ro k ds' y mask N E' H' K m' a' w' W0 Fr e' (fun g => (noRF_seq (hrf g)).2) (okB_seq hok).2 k2 k5 k6 k4 k7 k8).1 fun _ _ _ g => g.mono k3
      | ex id => have k1 : ex = .exit id := k1; subst k1; exact ⟨.ex id, e', m', E', H', ds', rfl, k2, k3, k4, k5, k6, k7, k8⟩
      | ret => have k1 : ex = .ret := k1; subst k1; exact ⟨.ret, e', m', E', H', ds', rfl, k2, k3, k4, k5, k6, k7, k8⟩
    | cond c x y =>
      obtain ⟨t, h1, h2⟩ := asB_sound (v := opV c .nil E) h
      have hc : a.eval c = .bool t := by rw [ha.eval]; exact opB he h1
      have := (ih ro k ds _ mask N E H K m a w W0 Fr e (fun g => by cases t; exact (noRF_cond (hrf g)).2; exact (noRF_cond (hrf g)).1) (by cases t; exact (okB_cond hok).2; exact (okB_cond hok).1) ha he hn hi hs h2).1
      refine ⟨wpIn_cond hc ?_, lnot (by intro c'; nofun)⟩
      cases t <;> exact this
    | block id c =>
      refine ⟨wpIn_block (wpIn_mono (ih ro k ds c mask N E H _ m a w W0 Fr e (fun g => hrf g) hok ha he hn hi hs h).1 ?_), lnot (by intro c'; nofun)⟩
      rintro ex a' w' ⟨X, e', m', E', H', ds', k1, k2, k3, k4, k5, k6, k7, k8⟩
      cases X with
      | norm => have k1 : ex = .normal := k1; subst k1; exact ⟨.norm, e', m', E', H', ds', rfl, k2, k3, k4, k5, k6, k7, k8⟩
      | ret => have k1 : ex = .ret := k1; subst k1; exact ⟨.ret, e', m', E', H', ds', rfl, k2, k3, k4, k5, k6, k7, k8⟩
      | ex j =>
        have k1 : ex = .exit j := k1
        subst k1
        have k8 : Bool.rec (motive := fun _ => Bool) (K (.ex j) E' H') (K .norm E' H') (Nat.beq j id) = true := k8
        simp only [Exit.inBlock]
        by_cases g : j = id
        · rw [if_pos g]
          rw [show Nat.beq j id = true from by rw [g]; simp] at k8
          exact ⟨.norm, e', m', E', H', ds', rfl, k2, k3, k4, k5, k6, k7, k8⟩
        · rw [if_neg g]
          rw [beq_ne g] at k8
          exact ⟨.ex j, e', m', E', H', ds', rfl, k2, k3, k4, k5, k6, k7, k8⟩
    | loop c =>
      have key : Code.roundsIn (FW ro) k p.P c (QX N W0 Fr mask m K) (n + 1) a w := by
        rw [roundsIn_succ]
        refine wpIn_mono (ih ro k ds c mask N E H _ m a w W0 Fr e (fun g => hrf g) hok ha he hn hi hs h).1 ?_
        rintro ex a' w' ⟨X, e', m', E', H', ds', k1, k2, k3, k4, k5, k6, k7, k8⟩
        cases X with
        | norm => have k1 : ex = .normal := k1; subst k1; exact roundsIn_mono (fun _ _ _ g => g.mono k3) ((ih ro k ds' (.loop c) mask N E' H' K m' a' w' W0 Fr e' (fun g => hrf g) hok k2 k5 k6 k4 k7 k8).2 c rfl)
        | ex id => have k1 : ex = .exit id := k1; subst k1; exact ⟨.ex id, e', m', E', H', ds', rfl, k2, k3, k4, k5, k6, k7, k8⟩
        | ret => have k1 : ex = .ret := k1; subst k1; exact ⟨.ret, e', m', E', H', ds', rfl, k2, k3, k4, k5, k6, k7, k8⟩
      exact ⟨wpIn_loop_rounds _ key, fun c' hc => by cases hc; exact key⟩
    | region id ops draw =>
      refine ⟨?_, lnot (by intro c'; nofun)⟩
      obtain ⟨h1, h2⟩ := andK_sound (c := dstAll N ops) h
      obtain ⟨hnd, h2⟩ := andK_sound (c := noDef ops) h2
      have fin : ∀ a' w', RegQ N W0 (dfA ds Fr) m E (fun L H => flushK mask L E fun E => K .norm E H) a' w' → QX N W0 Fr mask m K .normal a' w' := by
        rintro a' w' ⟨e', m', L', H', k1, k2, k3, k4, k5, k6⟩
        obtain ⟨E', g1, g2, g3⟩ := flushK_sound hn k6
        exact ⟨.norm, e', m', E', H', ds, rfl, k1, k2, k3, flush_rel k4 g2 g3, g2, k5, g1⟩
      cases draw with
      | false =>
        have h2 : evOps ops.toList ops p.P ⟨callF (evC p n) p.P p.msk p.orc, yieldF p (evC p n)⟩ .nil E H (fun L H => flushK mask L E fun E => K .norm E H) = true := h2
        have := evOps_sound (n := k) (ro := ro) (W0 := W0) (Fr := dfA ds Fr) hcall h1 hnd ops.toList 0 (by simp) (Map.le_refl m) ha he hi hs h2
        rw [Array.length_toList, ← List.range_eq_range'] at this
        refine wpIn_mono (wpIn_region this) ?_
        rintro x a' w' ⟨rfl, hq⟩
        exact fin a' w' hq
      | true =>
        cases htb : p.tab (tabN mask) id with
        | some o =>
          have hokR : okR (p.tab (tabN mask) id) ops = true := hok
          rw [htb] at h2 hokR
          cases o with
          | a l =>
            have h2 : decA l (fun l => evDraw l ops p.P (callF (evC p n) p.P p.msk p.orc) .nil .nil E H fun L H => flushK mask L E fun E => K .norm E H) = true := h2
            rw [decA_eq] at h2
            have := evDraw_sound (P := p.P) (W0 := W0) (Fr := dfA ds Fr) (pl := .nil) (S := fun _ _ => True) hcallN h1 _ (fun _ _ => trivial) (fun _ => trivial) ha he hi (Sat.drew hs) h2
            refine wpIn_mono (wpXS_regionIn hp.mixed hnd hokR this) ?_
            rintro x a' w' ⟨rfl, hq⟩; exact fin a' w' hq
          | b l =>
            have h2 : decB l (fun l => evM l ops p.P (callF (evC p n) p.P p.msk p.orc) .nil [] .nil E H fun L H => flushK mask L E fun E => K .norm E H) = true := h2
            rw [decB_eq] at h2
            have := evM_region (n := k) (ro := ro) (id := id) (W0 := W0) (Fr := dfA ds Fr) hp.mixed hokR hcallN h1 hnd ha he hi (Sat.drew hs) h2
            refine wpIn_mono this ?_
            rintro x a' w' ⟨rfl, hq⟩; exact fin a' w' hq
        | none =>
          rw [htb] at h2
          have h2 : Bool.rec (motive := fun _ => Bool) (andK (ordMAll ops (order4 p.P ops)) (evM (order4 p.P ops) ops p.P (callF (evC p n) p.P p.msk p.orc) .nil [] .nil E H fun L H => flushK mask L E fun E => K .norm E H)) (evDraw (mkOrd p.P ops ops.size (Array.replicate ops.size false)) ops p.P (callF (evC p n) p.P p.msk p.orc) .nil .nil E H fun L H => flushK mask L E fun E => K .norm E H) (ordAll ops (mkOrd p.P ops ops.size (Array.replicate ops.size false))) = true := h2
          cases h3 : ordAll ops (mkOrd p.P ops ops.size (Array.replicate ops.size false)) with
          | true =>
            rw [h3] at h2
            have := evDraw_sound (P := p.P) (W0 := W0) (Fr := dfA ds Fr) (pl := .nil) (S := fun _ _ => True) hcallN h1 _ (fun _ _ => trivial) (fun _ => trivial) ha he hi (Sat.drew hs) h2
            refine wpIn_mono (wpXS_regionIn hp.mixed hnd h3 this) ?_
            rintro x a' w' ⟨rfl, hq⟩; exact fin a' w' hq
          | false =>
            rw [h3] at h2
            obtain ⟨h5, h4⟩ := andK_sound h2
            have := evM_region (n := k) (ro := ro) (id := id) (W0 := W0) (Fr := dfA ds Fr) hp.mixed h5 hcallN h1 hnd ha he hi (Sat.drew hs) h4
            refine wpIn_mono this ?_
            rintro x a' w' ⟨rfl, hq⟩; exact fin a' w' hq
    | scope c =>
      cases ro with
      | some l => have := hrf rfl; cases this
      | none =>
        refine ⟨wpIn_wide.2 (wp_scope_straight (wp_mono (wpIn_wide.1 (ih none k ds c mask N E H _ m a w W0 Fr e (fun g => by cases g) hok ha he hn hi hs h).1) ?_)), lnot (by intro c'; nofun)⟩
        rintro ex a' w' hq
        have hq' := hq
        obtain ⟨X, e', m', E', H', ds', k1, _⟩ := hq
        cases X with
        | norm => have k1 : ex = .normal := k1; subst k1; exact hq'
        | ex id => have k1 : ex = .exit id := k1; subst k1; exact hq'
        | ret => have k1 : ex = .ret := k1; subst k1; exact hq'
    | rangeFunc f ps x y =>
      cases ro with
      | some l => have := hrf rfl; cases this
      | none => exact ⟨range_ok hp ih ha he hn hi hs h, lnot (by intro c'; nofun)⟩
    | goto l => cases h
    | refuse s => cases h
end
/-! ### A closed run -/
def h0 : Hp := ⟨1, .nil⟩
/-- A function of no parameters that, run here, ends true: so it does in every world. -/
theorem closed_true {p : Par} (hp : ParOk p) {f n : Nat} (h : callF (evC p n) p.P p.msk p.orc f .nil h0 (fun v _ => asB v fun b => b) = true) (hb : Callable p.P f) : Ctr p.P f [] [] (fun v Ps => v = .bool true ∧ Ps = []) := by
  refine ⟨hb, fun W0 Fr w hs => ?_⟩
  have hm : Mem W0 (fun _ => none) h0 Fr w := hs
  have := (callF_ok hp (evC_sound hp n)).1 f .nil h0 _ (fun _ => none) w W0 Fr [] ⟨⟨Nat.le_refl _, fun _ _ => rfl⟩, rfl⟩ hm rfl h
  rcases this with ⟨_, hc⟩ | ⟨v, w', hr, hc⟩
  · refine hc.mono ?_
    rintro en w' ⟨v, rfl, m', H', av, k1, k2, k3, k4, k5⟩
    obtain ⟨b, rfl, hb⟩ := asB_sound k5
    subst hb
    refine ⟨_, [], rfl, ⟨k3, rfl⟩, ?_⟩
    refine Sat.mono ?_ k4
    have e1 : Ent (sep (hpA m' H'.t ++ [Fr])) (sep [Fr]) := by
      generalize hpA m' H'.t = L
      induction L with
      | nil => exact Ent.refl _
      | cons A L ih => exact (Ent.drop _ _).trans ih
    exact e1
  · rw [callable_run hb] at hr
    cases hr
/-- A table of the program's own. -/
structure Tb where
  g : Nat
  c : Body
  T : Nat
  cs : List Value
def Tb.obj (b : Tb) : Obj := .cells b.cs.toArray b.T (0, 0)
def Tb.blk (b : Tb) : Blk := .gd b.g b.c b.T b.cs
def Tb.asn (b : Tb) : Assn := Go.Sl.blk b.g b.obj
end Go.Evl
