/-
  The evaluator: calls, regions, code. It proves nothing of the program by itself.
-/
import Derived.Test.YtbbgajjonodlfaaGreatGEv12
import Derived.LoopN
set_option linter.unusedVariables false
set_option linter.unusedSimpArgs false
namespace Go.Evl
open Go Go.Sl
abbrev CallF := Nat → AV → Hp → HK → Bool
/-- How functions and loops' rounds are called. -/
structure Cl where
  c : CallF
  y : CallF
/-- What a call comes to. -/
def CallRes (P : Program) (f : Nat) (vs : List Value) (w W0 : World) (Fr : Assn) (m : Map) (K : HK) : Prop :=
  (Callable P f ∧ Calls P f vs.toArray w fun en w' => ∃ v, en = .returned v ∧ Post1 W0 Fr m K v w') ∨ ∃ v w', (callFunc f vs.toArray).run P w = .ok (.value v) w' ∧ Post1 W0 Fr m K v w'
/-- What a call of a loop's round comes to. -/
def RoundRes (P : Program) (b : Nat) (vs : List Value) (w W0 : World) (Fr : Assn) (m : Map) (K : HK) : Prop :=
  ∃ fn tmps assign body, (Instr.yield b vs.toArray).run P w = .ok (.round b fn tmps assign body) w ∧ ∀ n, RoundIn Fence.wide n P b fn tmps assign body w fun en w' => ∃ v, en = .returned v ∧ Post1 W0 Fr m K v w'
def CallOk (Rd : Prop) (P : Program) (call : Cl) : Prop := (∀ f l H K m w W0 Fr vs, Inv1 m H → Mem W0 m H Fr w → relL m l vs → call.c f l H K = true → CallRes P f vs w W0 Fr m K) ∧
  ∀ id l H K m w W0 Fr vs b c, Inv1 m H → Mem W0 m H Fr w → relL m l vs → m id = some (b, c) → call.y id l H K = true → Rd ∧ RoundRes P b vs w W0 Fr m K
/-- What an operation comes to, a call among them. -/
def EX (Rd : Prop) (P : Program) (e : Env) (o : Oper) (W0 : World) (Fr : Assn) (m : Map) (w : World) (K : HK) : Prop :=
  ES P e o W0 Fr m w K ∨ (∃ f args, (execOp (ev e) o).run P w = .ok (.enter f args) w ∧ Calls P f args w fun en w' => ∃ v, en = .returned v ∧ Post1 W0 Fr m K v w') ∨
  (Rd ∧ ∃ b fn tmps assign body, (execOp (ev e) o).run P w = .ok (.round b fn tmps assign body) w ∧ ∀ n, RoundIn Fence.wide n P b fn tmps assign body w fun en w' => ∃ v, en = .returned v ∧ Post1 W0 Fr m K v w')
section
variable {P : Program} {e : Env} {o : Oper} {m : Map} {L E : En} {W0 w : World} {H : Hp} {Fr : Assn} {K : HK} {call : Cl} {Rd : Prop}
theorem CallRes.ex {f : Nat} {vs : List Value} (h : CallRes P f vs w W0 Fr m K) (hr : (execOp (ev e) o).run P w = (callFunc f vs.toArray).run P w) : EX Rd P e o W0 Fr m w K := by
  rcases h with ⟨h1, h2⟩ | ⟨v, w', h1, h2⟩
  · right; left; exact ⟨f, vs.toArray, by rw [hr, callable_run h1], h2⟩
  · left; exact ⟨v, w', .inl (by rw [hr, h1]), h2⟩
/-- Two lists, one behind the other. -/
noncomputable def appL (a b : AV) (K : AV → Bool) : Bool := AV.rec (motive := fun _ => AV → (AV → Bool) → Bool) (fun _ _ => false) (fun _ _ _ => false) (fun _ _ _ _ => false) (fun _ _ _ _ => false) (fun _ _ => false) (fun _ _ _ _ => false) (fun _ _ => false) (fun _ _ => false) (fun _ _ _ _ _ _ => false) (fun _ _ _ _ _ _ => false) (fun _ _ => false) (fun _ _ _ => false) (fun _ _ _ _ _ => false) (fun _ _ => false) (fun _ _ => false) (fun _ _ _ _ _ => false) (fun b K => K b) (fun v _ _ ih b K => ih b fun r => K (.cons v r)) (fun _ _ _ _ => false) (fun _ _ _ _ => false) a b K
theorem appL_sound {m : Map} {b : AV} {ys : List Value} (hb : relL m b ys) : ∀ {a : AV} {K : AV → Bool} {xs : List Value}, relL m a xs → appL a b K = true → ∃ l, relL m l (xs ++ ys) ∧ K l = true := by
  intro a
  induction a with
  | nil => intro K xs hr h; cases hr; exact ⟨b, hb, h⟩
  | cons v t _ ih =>
    intro K xs hr h
    obtain ⟨u, us, h1, h2, rfl⟩ := hr
    obtain ⟨l, h3, h4⟩ := ih (K := fun r => K (.cons v r)) h2 h
    exact ⟨.cons v l, ⟨u, us ++ ys, h1, h3, rfl⟩, h4⟩
  | _ => intro K xs hr; exact hr.elim
noncomputable def fnK (f : Fn) (K : Nat → Bool) : Bool := Fn.rec (motive := fun _ => (Nat → Bool) → Bool) (fun f K => K f) (fun _ _ => false) (fun _ _ _ => false) (fun _ _ _ _ _ => false) (fun _ _ => false) f K
theorem fnK_sound {f : Fn} {K : Nat → Bool} (h : fnK f K = true) : ∃ g, f = .func g ∧ K g = true := by
  cases f with
  | func g => exact ⟨g, rfl, h⟩
  | _ => cases h
noncomputable def isNilL (c : AV) (x y : Bool) : Bool := AV.rec (motive := fun _ => Bool → Bool → Bool) (fun x y => y) (fun _ x y => y) (fun _ _ x y => y) (fun _ _ x y => y) (fun x y => y) (fun _ _ x y => y) (fun x y => y) (fun x y => y) (fun _ _ _ _ x y => y) (fun _ _ _ _ x y => y) (fun x y => y) (fun _ x y => y) (fun _ _ _ x y => y) (fun x y => y) (fun x y => y) (fun _ _ _ x y => y) (fun x y => x) (fun _ _ _ _ x y => y) (fun _ _ x y => y) (fun _ _ x y => y) c x y
theorem isNilL_sound {c : AV} {x y : Bool} (h : isNilL c x y = true) : (c = .nil ∧ x = true) ∨ y = true := by
  cases c <;> first | exact .inl ⟨rfl, h⟩ | exact .inr h
noncomputable def fvK (v : AV) (K : Fn → AV → Bool) : Bool := AV.rec (motive := fun _ => (Fn → AV → Bool) → Bool) (fun _ => false) (fun _ _ => false) (fun _ _ _ => false) (fun _ _ _ => false) (fun _ => false) (fun _ _ _ => false) (fun _ => false) (fun _ => false) (fun _ _ _ _ _ => false) (fun _ _ _ _ _ => false) (fun _ => false) (fun _ _ => false) (fun f c _ K => K f c) (fun _ => false) (fun _ => false) (fun _ _ _ _ => false) (fun _ => false) (fun _ _ _ _ _ => false) (fun _ _ _ => false) (fun _ _ _ => false) v K
theorem fvK_sound {v : AV} {K : Fn → AV → Bool} (h : fvK v K = true) : ∃ f c, v = .fn f c ∧ K f c = true := by
  cases v <;> first | exact ⟨_, _, rfl, h⟩ | cases h
noncomputable def fnY (f : Fn) (K Y : Nat → Bool) (M : String → Bool) : Bool := Fn.rec (motive := fun _ => Bool) (fun f => K f) (fun n => M n) (fun _ _ => false) (fun _ _ _ _ => false) (fun i => Y i) f
theorem fnY_sound {f : Fn} {K Y : Nat → Bool} {M : String → Bool} (h : fnY f K Y M = true) : (∃ g, f = .func g ∧ K g = true) ∨ (∃ i, f = .yield i ∧ Y i = true) ∨ ∃ n, f = .method n ∧ M n = true := by
  cases f with
  | func g => exact .inl ⟨g, rfl, h⟩
  | yield i => exact .inr (.inl ⟨i, rfl, h⟩)
  | method n => exact .inr (.inr ⟨n, rfl, h⟩)
  | _ => cases h
noncomputable def soleK (l : AV) (K : AV → Bool) : Bool := AV.rec (motive := fun _ => (AV → Bool) → Bool) (fun _ => false) (fun _ _ => false) (fun _ _ _ => false) (fun _ _ _ => false) (fun _ => false) (fun _ _ _ => false) (fun _ => false) (fun _ => false) (fun _ _ _ _ _ => false) (fun _ _ _ _ _ => false) (fun _ => false) (fun _ _ => false) (fun _ _ _ _ => false) (fun _ => false) (fun _ => false) (fun _ _ _ _ => false) (fun _ => false) (fun h t _ _ K => isNilL t (K h) false) (fun _ _ _ => false) (fun _ _ _ => false) l K
theorem soleK_sound {l : AV} {K : AV → Bool} (h : soleK l K = true) : ∃ r, l = .cons r .nil ∧ K r = true := by
  cases l with
  | cons r t =>
    rcases isNilL_sound (show isNilL t (K r) false = true from h) with ⟨rfl, h1⟩ | h1
    · exact ⟨r, rfl, h1⟩
    · cases h1
  | _ => cases h
theorem run_callValue {c : Call} {f : Operand} {g : Nat} {caps : List Value} (hop : o.op = .call c) (hc : c.callee = .value f) (hf : ev e f = .func (.func g) #[] caps.toArray) :
    (execOp (ev e) o).run P w = (callFunc g ((c.args.toList.map (ev e)) ++ caps).toArray).run P w := by
  unfold execOp; rw [hop]
  simp only [resolve, hc, hf, Deferred.ofValue, Sem.run_bind, Sem.run_pure, Result.andThen_ok, invoke]
  congr 2
  apply Array.ext'
  simp
theorem run_callYield {c : Call} {f : Operand} {b : Nat} {caps : List Value} (hop : o.op = .call c) (hc : c.callee = .value f) (hf : ev e f = .func (.yield b) #[] caps.toArray) :
    (execOp (ev e) o).run P w = (Instr.yield b (c.args.toList.map (ev e)).toArray).run P w := by
  unfold execOp; rw [hop]
  simp only [resolve, hc, hf, Deferred.ofValue, Sem.run_bind, Sem.run_pure, Result.andThen_ok, invoke]
  congr 2
  apply Array.ext'
  simp
theorem mthB_sound {t : TypeId} {name : String} {f : FuncId} {v : Value} {fuel : Nat} (h : mthB P t name = some f) : (method (fuel + 1) t v name).run P w = .ok (f, v) w := by
  unfold mthB at h
  split at h
  · cases h
  · rename_i i hi
    split at h
    · cases h
    · rename_i md hmd
      have hpath : ∀ {fp : FuncId × Bool}, md.path.toList = [] → md.func = some fp → (∃ d, P.underlying t = some d ∧ (match d, fp.2 with | .pointer _, true => True | .pointer _, false => False | _, true => False | _, false => True)) → (method (fuel + 1) t v name).run P w = .ok (fp.1, v) w := by
        rintro ⟨f, pr⟩ hp hf ⟨d, hd, hk⟩
        unfold method
        simp only [typeInfo, Sem.run_bind, run_program, Result.andThen_ok, hi, Sem.run_pure, hmd, hp, follow, hf]
        unfold receiverAt
        simp only [Sem.run_bind, run_underlying' hd, Result.andThen_ok]
        cases d <;> cases pr <;> first | exact hk.elim | (simp only [Place.get, Sem.run_pure, Result.andThen_ok])
      split at h
      · rename_i hp hf hu; cases h; exact hpath (fp := (f, true)) hp hf ⟨_, hu, trivial⟩
      · cases h
      · rename_i d hnot hp hf hu
        cases h
        refine hpath (fp := (f, false)) hp hf ⟨d, hu, ?_⟩
        cases d <;> first | trivial | (exact absurd rfl (hnot _))
      · cases h
noncomputable def cInvoke (r : Operand) (name : String) (c : Call) (P : Program) (call : Cl) (L E : En) (H : Hp) (K : HK) : Bool := asIf (opV r L E) fun t v => optK (mthB P t name) fun f => forceK v fun v => listK c.args.toList L E fun l => call.c f (.cons v l) H K
theorem cInvoke_sound {c : Call} {r : Operand} {name : String} (hcall : CallOk Rd P call) (hop : o.op = .call c) (hc : c.callee = .invoke r name) (hi : Inv1 m H) (he : EnvRel m L E e) (hs : Mem W0 m H Fr w) (h : cInvoke r name c P call L E H K = true) : EX Rd P e o W0 Fr m w K := by
  obtain ⟨t, v, h1, h2⟩ := asIf_sound h
  obtain ⟨f, h3, h4⟩ := optK_sound h2
  rw [forceK_eq] at h4
  obtain ⟨l, h5, h6⟩ := listK_sound he h4
  obtain ⟨u, r1, r2⟩ := (opR he h1 : rel m (.ifc t v) _)
  have hr : (execOp (ev e) o).run P w = (callFunc f (u :: c.args.toList.map (ev e)).toArray).run P w := by
    unfold execOp; rw [hop]
    simp only [resolve, hc, r2, Sem.run_bind, Sem.run_pure, Result.andThen_ok, invoke]
    have e0 : #[Value.iface t u] ++ Array.map (ev e) c.args = (Value.iface t u :: c.args.toList.map (ev e)).toArray := by apply Array.ext'; simp
    have e1 : ((Value.iface t u :: c.args.toList.map (ev e)).toArray)[0]? = some (.iface t u) := rfl
    have e3 : ((Value.iface t u :: c.args.toList.map (ev e)).toArray).extract 1 ((Value.iface t u :: c.args.toList.map (ev e)).toArray).size = (c.args.toList.map (ev e)).toArray := by
      apply Array.ext'
      simp [List.extract_eq_take_drop]
      exact List.take_of_length_le (by simp)
    have hfu : ∃ k, P.types.size + Made.depth = k + 1 := ⟨P.types.size + 99, rfl⟩
    obtain ⟨k, hk⟩ := hfu
    rw [e0]
    simp only [e1, e3, callMethod, Sem.run_bind, run_program, Result.andThen_ok, hk, mthB_sound h3]
    congr 2
    apply Array.ext'
    simp
  exact (hcall.1 f (.cons v l) H K m w W0 Fr (u :: c.args.toList.map (ev e)) hi hs ⟨u, _, r1, h5, rfl⟩ h6).ex hr
noncomputable def cValue (f : Operand) (c : Call) (P : Program) (call : Cl) (L E : En) (H : Hp) (K : HK) : Bool := fvK (opV f L E) fun g caps => fnY g
  (fun g => listK c.args.toList L E fun l => isNilL caps (call.c g l H K) (appL l caps fun l => call.c g l H K))
  (fun i => listK c.args.toList L E fun l => call.y i l H K)
  (fun name => soleK caps fun r => asIf r fun t v => optK (mthB P t name) fun f => forceK v fun v => listK c.args.toList L E fun l => call.c f (.cons v l) H K)
theorem cValue_sound {c : Call} {f : Operand} (hcall : CallOk Rd P call) (hop : o.op = .call c) (hc : c.callee = .value f) (hi : Inv1 m H) (he : EnvRel m L E e) (hs : Mem W0 m H Fr w) (h : cValue f c P call L E H K = true) : EX Rd P e o W0 Fr m w K := by
  obtain ⟨g0, caps, h1, h2⟩ := fvK_sound h
  rcases fnY_sound h2 with ⟨g, rfl, h3⟩ | ⟨i, rfl, h3⟩ | ⟨name, rfl, h3⟩
  · obtain ⟨l, h4, h5⟩ := listK_sound he h3
    obtain ⟨us, gg, r1, hgg, r2⟩ := (opR he h1 : rel m (.fn (.func g) caps) _)
    have hgg : gg = .func g := hgg
    subst hgg
    have hr := run_callValue (P := P) (w := w) hop hc r2
    have key : ∃ l', relL m l' (c.args.toList.map (ev e) ++ us) ∧ call.c g l' H K = true := by
      rcases isNilL_sound h5 with ⟨rfl, h6⟩ | h6
      · have r1 : us = [] := r1
        subst r1
        exact ⟨l, by simpa using h4, h6⟩
      · exact appL_sound r1 h4 h6
    obtain ⟨l', h6, h7⟩ := key
    exact (hcall.1 g l' H K m w W0 Fr _ hi hs h6 h7).ex hr
  · obtain ⟨l, h4, h5⟩ := listK_sound he h3
    obtain ⟨us, gg, r1, ⟨b, c', q1, hgg⟩, r2⟩ := (opR he h1 : rel m (.fn (.yield i) caps) _)
    subst hgg
    obtain ⟨hrd, fn, tmps, assign, body, k1, k2⟩ := hcall.2 i l H K m w W0 Fr _ b c' hi hs h4 q1 h5
    exact .inr (.inr ⟨hrd, b, fn, tmps, assign, body, by rw [run_callYield (P := P) (w := w) hop hc r2, k1], k2⟩)
  · obtain ⟨r, rfl, h3⟩ := soleK_sound h3
    obtain ⟨t, v, rfl, h2⟩ := asIf_sound h3
    obtain ⟨f', h3, h4⟩ := optK_sound h2
    rw [forceK_eq] at h4
    obtain ⟨l, h5, h6⟩ := listK_sound he h4
    obtain ⟨us, gg, ⟨u1, us1, ⟨u, r1, rfl⟩, hnil, rfl⟩, hgg, r2⟩ := (opR he h1 : rel m (.fn (.method name) (.cons (.ifc t v) .nil)) _)
    have hgg : gg = .method name := hgg
    subst hgg
    have hnil : us1 = [] := hnil
    subst hnil
    have r2 : ev e f = .func (.method name) #[.iface t u] #[] := r2
    have hr : (execOp (ev e) o).run P w = (callFunc f' (u :: c.args.toList.map (ev e)).toArray).run P w := by
      unfold execOp; rw [hop]
      simp only [resolve, hc, r2, Deferred.ofValue, Sem.run_bind, Sem.run_pure, Result.andThen_ok, invoke]
      have e0 : #[Value.iface t u] ++ Array.map (ev e) c.args = (Value.iface t u :: c.args.toList.map (ev e)).toArray := by apply Array.ext'; simp
      have e1 : ((Value.iface t u :: c.args.toList.map (ev e)).toArray)[0]? = some (.iface t u) := rfl
      have e3 : ((Value.iface t u :: c.args.toList.map (ev e)).toArray).extract 1 ((Value.iface t u :: c.args.toList.map (ev e)).toArray).size = (c.args.toList.map (ev e)).toArray := by
        apply Array.ext'
        simp [List.extract_eq_take_drop]
        exact List.take_of_length_le (by simp)
      have hfu : ∃ k, P.types.size + Made.depth = k + 1 := ⟨P.types.size + 99, rfl⟩
      obtain ⟨k, hk⟩ := hfu
      rw [e0]
      simp only [e1, e3, callMethod, Sem.run_bind, run_program, Result.andThen_ok, hk, mthB_sound h3]
      congr 2
      apply Array.ext'
      simp
    exact (hcall.1 f' (.cons v l) H K m w W0 Fr (u :: c.args.toList.map (ev e)) hi hs ⟨u, _, r1, h5, rfl⟩ h6).ex hr
noncomputable def cBuiltin (b : Builtin) : Call → Program → Cl → En → En → Hp → HK → Bool := Builtin.rec (motive := fun _ => (Call) → (Program) → (Cl) → (En) → (En) → (Hp) → (HK) → Bool) (fun c P _ L E H K => args22 c fun _ _ _ t' => Bool.rec (motive := fun _ => Bool) (eAppend c P L E H K) (eAppendZ c P L E H K) (isIntB P t')) (fun c P _ L E H K => cCap c P L E fun v => K v H) (fun c P _ L E H K => eClear c P L E H K) (fun _ _ _ _ _ _ _ => false) (fun _ _ _ _ _ _ _ => false) (fun c P _ L E H K => eCopy c P L E H K) (fun _ _ _ _ _ _ _ => false) (fun _ _ _ _ _ _ _ => false) (fun c P _ L E H K => cLen c P L E fun v => K v H) (fun _ _ _ _ _ _ _ => false) (fun c P _ L E H K => cMax c P L E fun v => K v H) (fun c P _ L E H K => cMin c P L E fun v => K v H) (fun _ _ _ _ _ _ _ => false) (fun _ _ _ _ _ _ _ => false) (fun _ _ _ _ _ _ _ => false) (fun _ _ _ _ _ _ _ => false) (fun _ _ _ _ _ _ _ => false) (fun _ _ _ _ _ _ _ => false) (fun _ _ _ _ _ _ _ => false) (fun _ _ _ _ _ _ _ => false) (fun c P _ L E H K => cSliceData c P L E fun v => K v H) (fun c P _ L E H K => eUnsafeString c P L E H K) (fun _ _ _ _ _ _ _ => false) (fun _ _ _ _ _ _ _ => false) (fun _ _ _ _ _ _ _ => false) (fun _ _ _ _ _ _ _ => false) b
noncomputable def eCall (c : Call) (P : Program) (call : Cl) (L E : En) (H : Hp) (K : HK) : Bool := Callee.rec (motive := fun _ => Call → Program → Cl → En → En → Hp → HK → Bool) cValue cInvoke cBuiltin c.callee c P call L E H K
theorem eCall_sound {c : Call} (hcall : CallOk Rd P call) (hop : o.op = .call c) (hi : Inv1 m H) (he : EnvRel m L E e) (hs : Mem W0 m H Fr w) (h : eCall c P call L E H K = true) : EX Rd P e o W0 Fr m w K := by
  unfold eCall at h
  generalize hc : c.callee = cc at h
  have pc : ∀ {b : Builtin}, c.callee = .builtin b → builtinP b c P L E (fun v => K v H) = true → EX Rd P e o W0 Fr m w K := by
    intro b hc h
    refine .inl (LS.es hi hs (PS.ls (pCall_sound hop he ?_)))
    unfold pCall
    rw [hc]
    exact h
  cases cc with
  | value f => exact cValue_sound hcall hop hc hi he hs h
  | invoke r n => exact cInvoke_sound hcall hop hc hi he hs h
  | builtin b =>
    cases b with
    | append =>
      obtain ⟨_, _, _, t', _, _, h⟩ := args22_sound (c := c) h
      cases hb : isIntB P t' with
      | true => rw [hb] at h; exact .inl (eAppendZ_sound hop hc hi he hs h)
      | false => rw [hb] at h; exact .inl (eAppend_sound hop hc hi he hs h)
    | copy => exact .inl (eCopy_sound hop hc hi he hs h)
    | clear => exact .inl (eClear_sound hop hc hi he hs h)
    | unsafeSliceData => exact .inl (LS.es hi hs (cSliceData_sound hop hc he h))
    | unsafeString => exact .inl (eUnsafeString_sound hop hc hi he hs h)
    | len => exact pc hc h
    | cap => exact pc hc h
    | max => exact pc hc h
    | min => exact pc hc h
    | _ => cases h
/-- Conversions of every kind. -/
noncomputable def convE (x : AV) (s d : TypeId) (o : Operand) (P : Program) (L E : En) (H : Hp) (K : HK) : Bool := AV.rec (motive := fun _ => (TypeId) → (TypeId) → (Operand) → (Program) → (En) → (En) → (Hp) → (HK) → Bool) (fun _ _ _ _ _ _ _ _ => false) (fun _ _ _ _ _ _ _ _ _ => false) (fun k n s d o P L E H K => pConv s d o P L E fun v => K v H) (fun l n s d o P L E H K => Bool.rec (motive := fun _ => Bool) (eConv s d o P L E H K) (pConv s d o P L E fun v => K v H) (Nat.beq (tyc P d) 7)) (fun _ _ _ _ _ _ _ _ => false) (fun _ _ s d o P L E H K => lConvP s d o P L E H fun v => K v H) (fun  s d o P L E H K => lConv s d o P L E H fun v => K v H) (fun _ _ _ _ _ _ _ _ => false) (fun a b c e s d o P L E H K => lConv s d o P L E H fun v => K v H) (fun a b c e s d o P L E H K => lConv s d o P L E H fun v => K v H) (fun _ _ _ _ _ _ _ _ => false) (fun _ _ _ _ _ _ _ _ _ => false) (fun _ _ _ _ _ _ _ _ _ _ _ => false) (fun _ _ _ _ _ _ _ _ => false) (fun _ _ _ _ _ _ _ _ => false) (fun _ _ _ _ _ _ _ _ _ _ _ => false) (fun _ _ _ _ _ _ _ _ => false) (fun _ _ _ _ _ _ _ _ _ _ _ _ => false) (fun _ _ _ _ _ _ _ _ _ _ => false) (fun _ _ _ _ _ _ _ _ _ _ => false) x s d o P L E H K
noncomputable def eConvA (s d : TypeId) (x : Operand) (P : Program) (_call : Cl) (L E : En) (H : Hp) (K : HK) : Bool := convE (opV x L E) s d x P L E H K
theorem eConvA_sound {s d : TypeId} {x : Operand} (hop : o.op = .convert s d x) (hi : Inv1 m H) (he : EnvRel m L E e) (hs : Mem W0 m H Fr w) (h : eConvA s d x P call L E H K = true) : EX Rd P e o W0 Fr m w K := by
  unfold eConvA convE at h
  generalize hv : opV x L E = v at h
  cases v with
  | i k n => exact .inl (LS.es hi hs (PS.ls (pConv_sound hop he h)))
  | s l n =>
    have h : Bool.rec (motive := fun _ => Bool) (eConv s d x P L E H K) (pConv s d x P L E fun v => K v H) (Nat.beq (tyc P d) 7) = true := h
    cases hb : Nat.beq (tyc P d) 7 with
    | true => rw [hb] at h; exact .inl (LS.es hi hs (PS.ls (pConv_sound hop he h)))
    | false => rw [hb] at h; exact .inl (eConv_sound hop hi he hs h)
  | p id off => exact .inl (LS.es hi hs (lConvP_sound hop hi he hs h))
  | sn => exact .inl (LS.es hi hs (lConv_sound hop hi he hs h))
  | sl id off n c => exact .inl (LS.es hi hs (lConv_sound hop hi he hs h))
  | sv id off n c => exact .inl (LS.es hi hs (lConv_sound hop hi he hs h))
  | _ => cases h
noncomputable def evOp (op : Op) : Program → Cl → En → En → Hp → HK → Bool := Op.rec (motive := fun _ => (Program) → (Cl) → (En) → (En) → (Hp) → (HK) → Bool) (fun a0 P _ L E H K => pMove a0 P L E fun v => K v H) (fun a0 P _ L E H K => pMove a0 P L E fun v => K v H) (fun a0 a1 a2 P _ L E H K => pPick a0 a1 a2 P L E fun v => K v H) (fun a0 P _ L E H K => eAlloc a0 P L E H K) (fun a0 a1 P _ L E H K => eBox a0 a1 P L E H K) (fun a0 a1 P _ L E H K => pBuild a0 a1 P L E fun v => K v H) (fun a0 a1 a2 P _ L E H K => eBuildSlice a0 a1 a2 P L E H K) (fun _ _ _ _ _ _ _ _ _ _ => false) (fun a b P _ L E H K => lLoad a b P L E H fun v => K v H) (fun a0 a1 a2 P _ L E H K => eStore a0 a1 a2 P L E H K) (fun _ _ _ _ _ _ _ => false) (fun _ _ _ _ _ _ _ => false) (fun a0 P _ L E H K => pNilCheck a0 P L E fun v => K v H) (fun a0 a1 a2 a3 a4 P _ L E H K => pBin a0 a1 a2 a3 a4 P L E fun v => K v H) (fun a0 a1 a2 P _ L E H K => pUn a0 a1 a2 P L E fun v => K v H) eConvA (fun _ _ _ _ _ _ _ _ => false) (fun a0 a1 P _ L E H K => pMakeIf a0 a1 P L E fun v => K v H) (fun a0 a1 a2 P _ L E H K => pMakeFn a0 a1 a2 P L E fun v => K v H) (fun _ r _ _ _ _ H K => eMakeMap r H K) (fun _ _ _ _ _ _ _ _ => false) (fun a0 a1 a2 P _ L E H K => eMakeSlice a0 a1 a2 P L E H K) (fun a0 a1 a2 a3 a4 P _ L E H K => pSlice a0 a1 a2 a3 a4 P L E fun v => K v H) (fun a0 a1 a2 P _ L E H K => pFieldAddr a0 a1 a2 P L E fun v => K v H) (fun a0 a1 a2 P _ L E H K => pField a0 a1 a2 P L E fun v => K v H) (fun a0 a1 a2 P _ L E H K => Bool.rec (motive := fun _ => Bool) (pIndexAddr a0 a1 a2 P L E fun v => K v H) (lIndexG a0 a1 a2 P L E H fun v => K v H) (glK a1 fun _ => true)) (fun a0 a1 a2 P _ L E H K => pIndex a0 a1 a2 P L E fun v => K v H) (fun a0 a1 a2 a3 P _ L E H K => lLookup a0 a1 a2 a3 P L E H fun v => K v H) (fun a0 a1 a2 a3 P _ L E H K => eMapUpdate a0 a1 a2 a3 P L E H K) (fun a0 a1 a2 P _ L E H K => eMapEntry a0 a1 a2 P L E H K) (fun _ a1 a2 a3 _ _ L E H K => eEntryStore a1 a2 a3 L E H K) (fun a0 a1 P _ L E H K => Bool.rec (motive := fun _ => Bool) (eRange a0 a1 P L E H K) (eRangeM a0 a1 P L E H K) (mapB P a0)) (fun a0 a1 P _ L E H K => Bool.rec (motive := fun _ => Bool) (eNextM a0 a1 P L E H K) (eNext a0 a1 P L E H K) a1) (fun a0 _ _ L E H K => eEntryM a0 L E H fun v => K v H) (fun a0 a1 a2 a3 P _ L E H K => pTypeAssert a0 a1 a2 a3 P L E fun v => K v H) (fun a0 a1 P _ L E H K => pExtract a0 a1 P L E fun v => K v H) eCall (fun _ _ _ _ _ _ _ => false) (fun _ _ _ _ _ _ _ => false) (fun _ _ _ _ _ _ _ => false) (fun _ _ _ _ _ _ _ _ => false) (fun _ _ _ _ _ _ _ _ _ => false) (fun _ _ _ _ _ _ _ _ => false) op
theorem evOp_sound (hcall : CallOk Rd P call) (hi : Inv1 m H) (he : EnvRel m L E e) (hs : Mem W0 m H Fr w) (h : evOp o.op P call L E H K = true) : EX Rd P e o W0 Fr m w K := by
  generalize hop : o.op = op at h
  cases op with
  | move => exact .inl (LS.es hi hs (PS.ls (pMove_sound hop he h)))
  | assign => exact .inl (LS.es hi hs (PS.ls (pAssign_sound hop he h)))
  | pick => exact .inl (LS.es hi hs (PS.ls (pPick_sound hop he h)))
  | nilCheck => exact .inl (LS.es hi hs (PS.ls (pNilCheck_sound hop he h)))
  | binOp => exact .inl (LS.es hi hs (PS.ls (pBin_sound hop he h)))
  | unOp => exact .inl (LS.es hi hs (PS.ls (unV_sound hop he h)))
  | makeInterface => exact .inl (LS.es hi hs (PS.ls (pMakeIf_sound hop he h)))
  | makeFunc => exact .inl (LS.es hi hs (PS.ls (pMakeFn_sound hop he h)))
  | slice => exact .inl (LS.es hi hs (PS.ls (pSlice_sound hop he h)))
  | fieldAddr => exact .inl (LS.es hi hs (PS.ls (pFieldAddr_sound hop he h)))
  | field => exact .inl (LS.es hi hs (PS.ls (pField_sound hop he h)))
  | indexAddr t x i =>
    have h : Bool.rec (motive := fun _ => Bool) (pIndexAddr t x i P L E fun v => K v H) (lIndexG t x i P L E H fun v => K v H) (glK x fun _ => true) = true := h
    cases hb : glK x fun _ => true with
    | false => rw [hb] at h; exact .inl (LS.es hi hs (PS.ls (pIndexAddr_sound hop he h)))
    | true => rw [hb] at h; exact .inl (LS.es hi hs (lIndexG_sound hop he hs h))
  | index => exact .inl (LS.es hi hs (PS.ls (pIndex_sound hop he h)))
  | extract => exact .inl (LS.es hi hs (PS.ls (pExtract_sound hop he h)))
  | build => exact .inl (LS.es hi hs (PS.ls (pBuild_sound hop he h)))
  | typeAssert => exact .inl (LS.es hi hs (PS.ls (pTypeAssert_sound hop he h)))
  | mapEntry => exact .inl (eMapEntry_sound hop hi he hs h)
  | entryStore => exact .inl (eEntryStore_sound hop hi he hs h)
  | lookup => exact .inl (LS.es hi hs (lLookup_sound hop hi he hs h))
  | range t x =>
    have h : Bool.rec (motive := fun _ => Bool) (eRange t x P L E H K) (eRangeM t x P L E H K) (mapB P t) = true := h
    cases hb : mapB P t with
    | true => rw [hb] at h; exact .inl (eRangeM_sound hop hi he hs h)
    | false => rw [hb] at h; exact .inl (eRange_sound hop hi he hs h)
  | next x s =>
    have h : Bool.rec (motive := fun _ => Bool) (eNextM x s P L E H K) (eNext x s P L E H K) s = true := h
    cases s with
    | true => exact .inl (eNext_sound hop hi he hs h)
    | false => exact .inl (eNextM_sound hop hi he hs h)
  | entry => exact .inl (LS.es hi hs (eEntryM_sound hop hi he hs h))
  | makeMap => exact .inl (eMakeMap_sound hop hi hs h)
  | mapUpdate => exact .inl (eMapUpdate_sound hop hi he hs h)
  | load => exact .inl (LS.es hi hs (lLoad_sound hop hi he hs h))
  | alloc => exact .inl (eAlloc_sound (L := L) (E := E) hop hi hs h)
  | box => exact .inl (eBox_sound hop hi he hs h)
  | makeSlice => exact .inl (eMakeSlice_sound hop hi he hs h)
  | buildSlice => exact .inl (eBuildSlice_sound hop hi he hs h)
  | store => exact .inl (eStore_sound hop hi he hs h)
  | convert => exact eConvA_sound (call := call) hop hi he hs h
  | call => exact eCall_sound hcall hop hi he hs h
  | _ => cases h
end
end Go.Evl
