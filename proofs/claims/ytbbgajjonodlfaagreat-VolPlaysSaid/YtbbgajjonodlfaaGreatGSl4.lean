/-
  Contracts, and the rules for the operations of a region by what they come to. It proves nothing of the program by itself.
-/
import Derived.Test.YtbbgajjonodlfaaGreatGSl1
import Derived.Laws.Sem
import Derived.Laws.World
import Derived.Laws.Strings
set_option linter.unusedVariables false
set_option linter.unusedSimpArgs false
namespace Go.Sl
open Go

/-! ### Contracts -/
def Callable (P : Program) (f : FuncId) : Prop := ∃ fn, P.funcs[f]? = some fn ∧ (fn.name == "runtime.NumGoroutine") = false ∧ fn.body.isNone = false
/-- Called with these values where 'pre' is owned, f returns v and leaves Ps, with 'post v Ps'; all else stays. -/
def Ctr (P : Program) (f : FuncId) (args : List Value) (pre : List Assn) (post : Value → List Assn → Prop) : Prop :=
  Callable P f ∧ ∀ (W0 : World) (Fr : Assn) (w : World), Sat W0 (sep (pre ++ [Fr])) w →
    Calls P f args.toArray w (fun e w' => ∃ v Ps, e = .returned v ∧ post v Ps ∧ Sat W0 (sep (Ps ++ [Fr])) w')
theorem Ctr.mono {P : Program} {f : FuncId} {args : List Value} {pre pre' : List Assn} {post post' : Value → List Assn → Prop} (h : Ctr P f args pre post)
    (hp : Ent (sep pre') (sep pre)) (hq : ∀ v Ps, post v Ps → ∃ Ps', post' v Ps' ∧ Ent (sep Ps) (sep Ps')) : Ctr P f args pre' post' :=
  ⟨h.1, fun W0 Fr w hs => (h.2 W0 Fr w (hs.mono (Ent.append hp (Ent.refl _)))).mono fun _ _ ⟨v, Ps, he, hpost, hsat⟩ =>
    let ⟨Ps', h1, h2⟩ := hq v Ps hpost
    ⟨v, Ps', he, h1, hsat.mono (Ent.append h2 (Ent.refl _))⟩⟩
theorem Ent.frame {L R : List Assn} : Ent (sep (L ++ R)) (sep (L ++ [sep R])) :=
  Ent.append (Ent.refl _) Ent.one
theorem Ent.unframe {L R : List Assn} : Ent (sep (L ++ [sep R])) (sep (L ++ R)) :=
  Ent.append (Ent.refl _) (Ent.head _ _)
/-- What a function's result variables hold. -/
def resVar (tmps : Array Value) : ResultVar → Sem Value
  | .tmp t => pure (tmps.getD t undef)
  | .cell a t => do loadVar t (← asAddr (tmps.getD a undef))
def RetRun (P : Program) (rs : List ResultVar) (e : Env) (H : List Assn) (vs : List Value) : Prop :=
  ∀ (W0 : World) (tmps : Array Value) (w : World), (∀ t, tmps.getD t undef = e t) → Sat W0 (sep H) w → (rs.mapM (resVar tmps)).run P w = .ok vs w
theorem RetRun.nil {P : Program} {e : Env} {H : List Assn} : RetRun P [] e H [] := fun _ _ _ _ _ => rfl
theorem RetRun.tmp {P : Program} {e : Env} {H : List Assn} {t : Nat} {rs : List ResultVar} {vs : List Value} (h : RetRun P rs e H vs) : RetRun P (.tmp t :: rs) e H (e t :: vs) := by
  intro W0 tmps w hg hs
  have := h W0 tmps w hg hs
  rw [List.mapM_cons]
  simp only [resVar, Sem.run_bind, Sem.run_pure, Result.andThen_ok]
  rw [this]
  simp only [Result.andThen_ok, hg]
theorem RetRun.cell {P : Program} {e : Env} {H : List Assn} {t : Nat} {ty : TypeId} {a : Addr} {v : Value} {rs : List ResultVar} {vs : List Value} (ht : e t = .pointer (some a))
    (hv : ∀ W0 w, Sat W0 (sep H) w → (loadVar ty a).run P w = .ok v w) (h : RetRun P rs e H vs) : RetRun P (.cell t ty :: rs) e H (v :: vs) := by
  intro W0 tmps w hg hs
  have := h W0 tmps w hg hs
  rw [List.mapM_cons]
  simp only [resVar, hg, ht, asAddr, Sem.run_bind, Sem.run_pure, Result.andThen_ok, hv W0 w hs]
  rw [this]
  simp only [Result.andThen_ok]
def tupled : List Value → Value
  | [v] => v
  | vs => .tuple vs.toArray
/-- What a function's body has to come to. -/
def bodyQ (P : Program) (post : Value → List Assn → Prop) (Fr : Assn) (rs : List ResultVar) : Post
  | .normal, e, H => ∃ vs Ps, RetRun P rs e H vs ∧ post (tupled vs) Ps ∧ Ent (sep H) (sep (Ps ++ [Fr]))
  | .ret, e, H => ∃ vs Ps, RetRun P rs e H vs ∧ post (tupled vs) Ps ∧ Ent (sep H) (sep (Ps ++ [Fr]))
  | _, _, _ => False
theorem results_run {P : Program} {fn : Func} {tmps : Array Value} {w : World} {vs : List Value} (h : (fn.results.toList.mapM (resVar tmps)).run P w = .ok vs w) :
    (results fn tmps).run P w = .ok (tupled vs) w := by
  have e1 : (results fn tmps) = (do let vs ← fn.results.mapM (resVar tmps); pure (if h : vs.size = 1 then vs[0] else .tuple vs)) := by
    rfl
  rw [e1]
  generalize fn.results = rs at *
  obtain ⟨rs⟩ := rs
  rw [List.mapM_toArray]
  simp only [Sem.run_bind, Sem.run_map]
  rw [h]
  simp only [Result.andThen_ok, Sem.run_pure]
  congr 1
  unfold tupled
  match vs with
  | [] => simp
  | [v] => simp
  | v :: u :: vs => simp
theorem Ctr.of_body {P : Program} {f : FuncId} {fn : Func} {c : Code} {args : List Value} {pre : List Assn} {post : Value → List Assn → Prop} {N : Nat} {rs : List ResultVar}
    (hf : P.funcs[f]? = some fn) (hb : fn.body = some c) (hn : (fn.name == "runtime.NumGoroutine") = false) (hN : fn.ntmps = N) (hrs : fn.results.toList = rs) (hlen : Nat.ble args.length N = true)
    (h : ∀ Fr, T P N c (bodyQ P post Fr rs) (envOf args) (pre ++ [Fr])) : Ctr P f args pre post := by
  refine ⟨⟨fn, hf, hn, by rw [hb]; rfl⟩, fun W0 Fr w hs => ?_⟩
  subst hN
  refine calls_of_wp hf hb ?_
  have hle : args.length ≤ fn.ntmps := by simpa using hlen
  refine wp_mono (h Fr W0 _ w (EnvOk.enter hle) hs) ?_
  rintro x a' w' ⟨e', H', ha, hsat, hq⟩
  cases x with
  | normal =>
    obtain ⟨vs, Ps, h1, h2, h3⟩ := hq
    exact ⟨ha.defers, _, results_run (by rw [hrs]; exact h1 W0 _ w' ha.get hsat), _, Ps, rfl, h2, hsat.mono h3⟩
  | ret =>
    obtain ⟨vs, Ps, h1, h2, h3⟩ := hq
    exact ⟨ha.defers, _, results_run (by rw [hrs]; exact h1 W0 _ w' ha.get hsat), _, Ps, rfl, h2, hsat.mono h3⟩
  | exit id => exact hq.elim
  | goto l => exact hq.elim
  | panic c => exact hq.elim
  | outgrown => exact hq.elim

/-! ### What an operation comes to -/
/-- In every world: v. -/
def PRun (P : Program) (e : Env) (o : Oper) (v : Value) : Prop := ∀ w, (execOp (ev e) o).run P w = .ok (.value v) w
/-- In every world where Rs are owned: v. -/
def QRun (P : Program) (e : Env) (Rs : List Assn) (o : Oper) (v : Value) : Prop := ∀ W0 w, Sat W0 (sep Rs) w → (execOp (ev e) o).run P w = .ok (.value v) w
/-- Where Hs are owned, it yields some v and leaves some Hs'. -/
def ERun (P : Program) (e : Env) (Hs : List Assn) (o : Oper) (K : Value → List Assn → Prop) : Prop :=
  ∀ W0 w, Sat W0 (sep Hs) w → ∃ v w' Hs', ((execOp (ev e) o).run P w = .ok (.value v) w' ∨ ((execOp (ev e) o).run P w = .ok .skip w' ∧ v = undef)) ∧ K v Hs' ∧ Sat W0 (sep Hs') w'
/-- It calls f. -/
def CRun (P : Program) (e : Env) (o : Oper) (f : FuncId) (args : List Value) : Prop := Callable P f → ∀ w, (execOp (ev e) o).run P w = .ok (.enter f args.toArray) w
theorem PRun.q {P : Program} {e : Env} {Rs : List Assn} {o : Oper} {v : Value} (h : PRun P e o v) : QRun P e Rs o v := fun _ w _ => h w
def wantE (ops : List Oper) (e : Env) (o : Oper) : Bool :=
  match o.guard with
  | none => true
  | some (j, b) => match nth ops j with
    | none => false
    | some oj => match oj.dst with
      | none => false
      | some d => match e d with
        | .bool c => cond b c (!c)
        | _ => false
theorem nth_eq {α : Type} : ∀ (l : List α) (t : Nat), nth l t = l[t]?
  | [], t => by simp [nth]
  | _ :: _, 0 => by simp [nth]
  | _ :: l, t + 1 => by simp [nth, nth_eq l t]
theorem nth_arr {ops : Array Oper} {i : Nat} {o : Oper} (h : nth ops.toList i = some o) : ops[i]? = some o := by
  rw [nth_eq] at h
  simpa using h
theorem wantE_eq {N : Nat} {ops : Array Oper} {a : Act} {e : Env} (h : EnvOk N a e) (o : Oper) : Region.wanted o (yielded ops a.tmps) = wantE ops.toList e o := by
  unfold Region.wanted wantE
  cases o.guard with
  | none => rfl
  | some p =>
    obtain ⟨j, b⟩ := p
    simp only [yielded, nth_eq, Array.getElem?_toList]
    cases ops[j]? with
    | none => simp
    | some oj =>
      simp only [Option.bind_some]
      cases oj.dst with
      | none => simp
      | some d =>
        simp only [Option.bind_some]
        have := h.get d
        simp only [Array.getD_eq_getD_getElem?] at this
        rw [← this]
        cases hd : a.tmps[d]? with
        | none => simp [undef]
        | some v =>
          simp only [Option.getD_some]
          cases v <;> simp
          rename_i c
          cases b <;> cases c <;> rfl
abbrev Next1 := Env → List Assn → Prop
def RN (P : Program) (N : Nat) (ops : Array Oper) (Q : Next1) (l : List Nat) (e : Env) (Hs : List Assn) : Prop :=
  ∀ W0 a w, EnvOk N a e → Sat W0 (sep Hs) w → wpOps P ops (fun x a' w' => x = .normal ∧ ∃ e' Hs', EnvOk N a' e' ∧ Sat W0 (sep Hs') w' ∧ Q e' Hs') l a w
def RD (P : Program) (N : Nat) (ops : Array Oper) (Bs : List Assn) (z : Nat) (Q : Next1) (l : List (Nat × Kd3)) (e : Env) (Hs : List Assn) : Prop :=
  ∀ W0 a w, EnvOk N a e → Sat W0 (sep Hs) w → wpX P ops (Sat W0 (sep Bs)) z (fun a' w' => ∃ e' Hs', EnvOk N a' e' ∧ Sat W0 (sep Hs') w' ∧ Q e' Hs') l a w
section regions
variable {P : Program} {N : Nat} {Q : Next1} {e : Env} {Hs : List Assn}
theorem T.region {id : Nat} {ops : Array Oper} {R : Post} {l : List Nat} (hl : List.range ops.size = l) (h : RN P N ops (fun e H => R .normal e H) l e Hs) : T P N (.region id ops false) R e Hs := by
  subst hl
  intro W0 a w ha hs
  refine wp_mono (wp_region (h W0 a w ha hs)) ?_
  rintro x a' w' ⟨rfl, e', H', h1, h2, h3⟩
  exact ⟨e', H', h1, h2, h3⟩
theorem T.regionD {id z : Nat} {ops : Array Oper} {R : Post} {Bs : List Assn} {l : List (Nat × Kd3)} (hm : P.follows .mixedOrders = true)
    (ho : (Region.noSelect ops && (Nat.beq l.length ops.size && ordOk .any ops z l (Array.replicate ops.size false))) = true) (hB : Ent (sep Hs) (sep Bs))
    (h : RD P N ops Bs z (fun e H => R .normal e H) l e Hs) : T P N (.region id ops true) R e Hs := by
  simp only [Bool.and_eq_true] at ho
  intro W0 a w ha hs
  refine wp_mono (wpX_region hm ho.1 (Nat.eq_of_beq_eq_true ho.2.1) ho.2.2 (hs.mono hB).drew (h W0 a w.drew ha hs.drew)) ?_
  rintro x a' w' ⟨rfl, e', H', h1, h2, h3⟩
  exact ⟨e', H', h1, h2, h3⟩
variable {ops : Array Oper} {i : Nat} {l : List Nat} {o : Oper} {v : Value}
theorem dst_ok {d : Option Nat} (h : (match d with | some x => Nat.blt x N | none => true) = true) : ∀ x, d = some x → Nat.blt x N = true := by
  intro x hx
  subst hx
  exact h
theorem RN.nil (h : Q e Hs) : RN P N ops Q [] e Hs := fun _ _ _ ha hs => ⟨rfl, e, Hs, ha, hs, h⟩
theorem RN.q (hi : nth ops.toList i = some o) (hw : wantE ops.toList e o = true) (hd : (match o.dst with | some x => Nat.blt x N | none => true) = true) (hq : QRun P e Hs o v)
    (h : RN P N ops Q l (updO e o.dst v) Hs) : RN P N ops Q (i :: l) e Hs := by
  intro W0 a w ha hs
  rw [wpOps_cons]
  unfold wpOp
  rw [nth_arr hi]
  simp only [wantE_eq ha, hw, if_true]
  left
  unfold Oper.wp
  rw [ha.eval, hq W0 w hs]
  exact h W0 _ w (ha.put (dst_ok hd) v) hs
theorem RN.eff {K : Value → List Assn → Prop} (hi : nth ops.toList i = some o) (hw : wantE ops.toList e o = true) (hd : (match o.dst with | some x => Nat.blt x N | none => true) = true) (hq : ERun P e Hs o K)
    (h : ∀ v Hs', K v Hs' → RN P N ops Q l (updO e o.dst v) Hs') : RN P N ops Q (i :: l) e Hs := by
  intro W0 a w ha hs
  rw [wpOps_cons]
  unfold wpOp
  rw [nth_arr hi]
  simp only [wantE_eq ha, hw, if_true]
  left
  unfold Oper.wp
  rw [ha.eval]
  obtain ⟨v, w', H', hr, hk, hs'⟩ := hq W0 w hs
  rcases hr with hr | ⟨hr, rfl⟩
  · rw [hr]; exact h v H' hk W0 _ w' (ha.put (dst_ok hd) v) hs'
  · rw [hr]; exact h undef H' hk W0 _ w' (ha.put (dst_ok hd) undef) hs'
theorem RN.c {f : FuncId} {args : List Value} {pre R : List Assn} {post : Value → List Assn → Prop} (is : List Nat) (hi : nth ops.toList i = some o) (hw : wantE ops.toList e o = true)
    (hd : (match o.dst with | some x => Nat.blt x N | none => true) = true) (hc : CRun P e o f args) (hp : Ctr P f args pre post) (hpl : pull is Hs = some (pre, R))
    (h : ∀ v Ps, post v Ps → RN P N ops Q l (updO e o.dst v) (Ps ++ R)) : RN P N ops Q (i :: l) e Hs := by
  intro W0 a w ha hs
  rw [wpOps_cons]
  unfold wpOp
  rw [nth_arr hi]
  simp only [wantE_eq ha, hw, if_true]
  left
  unfold Oper.wp
  rw [ha.eval, hc hp.1 w]
  refine (hp.2 W0 (sep R) w (hs.mono ((Ent.pull hpl).trans Ent.frame))).mono ?_
  rintro e1 w1 ⟨v, Ps, rfl, hpost, hs1⟩
  exact h v Ps hpost W0 _ w1 (ha.put (dst_ok hd) v) (hs1.mono Ent.unframe)
theorem RN.no (hi : nth ops.toList i = some o) (hw : wantE ops.toList e o = false) (hd : (match o.dst with | some x => Nat.blt x N | none => true) = true)
    (h : RN P N ops Q l (updO e o.dst undef) Hs) : RN P N ops Q (i :: l) e Hs := by
  intro W0 a w ha hs
  rw [wpOps_cons]
  unfold wpOp
  rw [nth_arr hi]
  simp only [wantE_eq ha, hw]
  exact h W0 _ w (ha.put (dst_ok hd) undef) hs
theorem RN.ent {Hs' : List Assn} (k : Ent (sep Hs) (sep Hs')) (h : RN P N ops Q l e Hs') : RN P N ops Q l e Hs := fun W0 a w ha hs => h W0 a w ha (hs.mono k)
theorem RN.ex {α : Type} {A : α → Assn} {L : List Assn} (h : ∀ x, RN P N ops Q l e (A x :: L)) : RN P N ops Q l e (Sl.ex A :: L) :=
  fun W0 a w ha hs => let ⟨x, hx⟩ := hs.out; h x W0 a w ha hx
theorem RN.live (ll : List (Nat × Value)) (hl : LiveIs e ll) (h : ∀ e', RN P N ops Q l (updAll e' ll) Hs) : RN P N ops Q l e Hs := by
  obtain ⟨e', rfl⟩ := live_ex hl
  exact h e'
theorem RN.mono {Q' : Next1} (h : RN P N ops Q' l e Hs) (k : ∀ e H, Q' e H → Q e H) : RN P N ops Q l e Hs := by
  have key : ∀ (l : List Nat) (Q1 Q2 : Exit → Act → World → Prop), (∀ x a w, Q1 x a w → Q2 x a w) → ∀ a w, wpOps P ops Q1 l a w → wpOps P ops Q2 l a w := by
    intro l
    induction l with
    | nil => intro Q1 Q2 hq a w h; exact hq _ _ _ h
    | cons i l ih =>
      intro Q1 Q2 hq a w h
      rw [wpOps_cons] at h ⊢
      have h2 := wpOp_mono (K' := wpOps P ops Q2 l) (fun a w => ih Q1 Q2 hq a w) h
      unfold wpOp at h2 ⊢
      split
      · rename_i g; rw [g] at h2; exact h2
      · rename_i o g
        rw [g] at h2
        simp only at h2
        split
        · rename_i hw
          simp only [hw, if_true] at h2
          rcases h2 with h2 | ⟨h3, b, w3, h4⟩
          · left
            unfold Oper.wp at *
            generalize (execOp a.eval o).run P w = r at *
            cases r with
            | ok n w' =>
              cases n <;> simp only [Oper.upon] at h2 ⊢ <;> first
                | exact h2
                | (refine Calls.mono h2 fun e w'' he => ?_
                   cases e with
                   | returned u => exact he
                   | panicked c => exact hq _ _ _ he
                   | outgrown => obtain ⟨b, w3, he⟩ := he; exact ⟨b, w3, hq _ _ _ he⟩)
            | halt x w' => cases x <;> simp only [Oper.upon] at h2 ⊢; exact hq _ _ _ h2
          · exact .inr ⟨h3, b, w3, hq _ _ _ h4⟩
        · rename_i hw; simp only [hw] at h2; exact h2
  intro W0 a w ha hs
  exact key l _ _ (fun x a' w' ⟨h0, e', H', h1, h2, h3⟩ => ⟨h0, e', H', h1, h2, k _ _ h3⟩) a w (h W0 a w ha hs)
/-- A slot holds a Bool that is not told: two ways. -/
theorem RN.split (d : Nat) {b : Bool} (hb : e d = .bool b) (ht : b = true → RN P N ops Q l (upd e d (.bool true)) Hs) (hf : b = false → RN P N ops Q l (upd e d (.bool false)) Hs) : RN P N ops Q l e Hs := by
  have key : ∀ c, b = c → upd e d (.bool c) = e := by
    intro c hc
    funext t
    unfold upd
    cases h : Nat.beq t d with
    | false => rfl
    | true => rw [Nat.eq_of_beq_eq_true h, hb, hc]; rfl
  cases b with
  | true => have := ht rfl; rwa [key true rfl] at this
  | false => have := hf rfl; rwa [key false rfl] at this
/-! In a region that draws -/
variable {Bs : List Assn} {z : Nat} {ld : List (Nat × Kd3)}
theorem RD.nil (h : Q e Hs) : RD P N ops Bs z Q [] e Hs := fun _ _ _ ha hs => ⟨e, Hs, ha, hs, h⟩
theorem RD.p (hi : nth ops.toList i = some o) (hw : wantE ops.toList e o = true) (hd : (match o.dst with | some x => Nat.blt x N | none => true) = true) (hq : PRun P e o v)
    (h : RD P N ops Bs z Q ld (updO e o.dst v) Hs) : RD P N ops Bs z Q ((i, .pure) :: ld) e Hs := by
  intro W0 a w ha hs
  refine ⟨o, v, nth_arr hi, .inl ⟨by rw [wantE_eq ha]; exact hw, fun w' => by rw [ha.eval]; exact hq w'⟩, h W0 _ w (ha.put (dst_ok hd) v) hs⟩
theorem RD.q (hi : nth ops.toList i = some o) (hw : wantE ops.toList e o = true) (hd : (match o.dst with | some x => Nat.blt x N | none => true) = true) (hq : QRun P e Bs o v) (hB : Ent (sep Hs) (sep Bs))
    (h : RD P N ops Bs z Q ld (updO e o.dst v) Hs) : RD P N ops Bs z Q ((i, .load) :: ld) e Hs := by
  intro W0 a w ha hs
  refine ⟨o, v, nth_arr hi, .inl ⟨by rw [wantE_eq ha]; exact hw, fun w' hw' => by rw [ha.eval]; exact hq W0 w' hw'⟩, hs.mono hB, h W0 _ w (ha.put (dst_ok hd) v) hs⟩
theorem RD.eff {K : Value → List Assn → Prop} (hi : nth ops.toList i = some o) (hw : wantE ops.toList e o = true) (hd : (match o.dst with | some x => Nat.blt x N | none => true) = true) (hq : ERun P e Hs o K)
    (hB : ∀ v Hs', K v Hs' → (Ent (sep Hs') (sep Bs) ∨ i = z)) (h : ∀ v Hs', K v Hs' → RD P N ops Bs z Q ld (updO e o.dst v) Hs') : RD P N ops Bs z Q ((i, .eff) :: ld) e Hs := by
  intro W0 a w ha hs
  unfold wpX wpOp
  rw [nth_arr hi]
  simp only [wantE_eq ha, hw, if_true]
  left
  unfold Oper.wp
  rw [ha.eval]
  obtain ⟨v, w', H', hr, hk, hs'⟩ := hq W0 w hs
  rcases hr with hr | ⟨hr, rfl⟩
  · rw [hr]; exact ⟨(hB v H' hk).imp (fun k => hs'.mono k) id, h v H' hk W0 _ w' (ha.put (dst_ok hd) v) hs'⟩
  · rw [hr]; exact ⟨(hB undef H' hk).imp (fun k => hs'.mono k) id, h undef H' hk W0 _ w' (ha.put (dst_ok hd) undef) hs'⟩
theorem RD.c {f : FuncId} {args : List Value} {pre R : List Assn} {post : Value → List Assn → Prop} (is : List Nat) (hi : nth ops.toList i = some o) (hw : wantE ops.toList e o = true)
    (hd : (match o.dst with | some x => Nat.blt x N | none => true) = true) (hc : CRun P e o f args) (hp : Ctr P f args pre post) (hpl : pull is Hs = some (pre, R))
    (hB : ∀ v Ps, post v Ps → (Ent (sep (Ps ++ R)) (sep Bs) ∨ i = z)) (h : ∀ v Ps, post v Ps → RD P N ops Bs z Q ld (updO e o.dst v) (Ps ++ R)) : RD P N ops Bs z Q ((i, .eff) :: ld) e Hs := by
  intro W0 a w ha hs
  unfold wpX wpOp
  rw [nth_arr hi]
  simp only [wantE_eq ha, hw, if_true]
  left
  unfold Oper.wp
  rw [ha.eval, hc hp.1 w]
  refine (hp.2 W0 (sep R) w (hs.mono ((Ent.pull hpl).trans Ent.frame))).mono ?_
  rintro e1 w1 ⟨v, Ps, rfl, hpost, hs1⟩
  have hs2 := hs1.mono Ent.unframe
  exact ⟨(hB v Ps hpost).imp (fun k => hs2.mono k) id, h v Ps hpost W0 _ w1 (ha.put (dst_ok hd) v) hs2⟩
theorem RD.no_p (hi : nth ops.toList i = some o) (hw : wantE ops.toList e o = false) (hd : (match o.dst with | some x => Nat.blt x N | none => true) = true)
    (h : RD P N ops Bs z Q ld (updO e o.dst undef) Hs) : RD P N ops Bs z Q ((i, .pure) :: ld) e Hs := by
  intro W0 a w ha hs
  exact ⟨o, undef, nth_arr hi, .inr ⟨by rw [wantE_eq ha]; exact hw, rfl⟩, h W0 _ w (ha.put (dst_ok hd) undef) hs⟩
theorem RD.no_l (hi : nth ops.toList i = some o) (hw : wantE ops.toList e o = false) (hd : (match o.dst with | some x => Nat.blt x N | none => true) = true) (hB : Ent (sep Hs) (sep Bs))
    (h : RD P N ops Bs z Q ld (updO e o.dst undef) Hs) : RD P N ops Bs z Q ((i, .load) :: ld) e Hs := by
  intro W0 a w ha hs
  exact ⟨o, undef, nth_arr hi, .inr ⟨by rw [wantE_eq ha]; exact hw, rfl⟩, hs.mono hB, h W0 _ w (ha.put (dst_ok hd) undef) hs⟩
theorem RD.no_e (hi : nth ops.toList i = some o) (hw : wantE ops.toList e o = false) (hd : (match o.dst with | some x => Nat.blt x N | none => true) = true) (hB : Ent (sep Hs) (sep Bs) ∨ i = z)
    (h : RD P N ops Bs z Q ld (updO e o.dst undef) Hs) : RD P N ops Bs z Q ((i, .eff) :: ld) e Hs := by
  intro W0 a w ha hs
  unfold wpX wpOp
  rw [nth_arr hi]
  simp only [wantE_eq ha, hw]
  exact ⟨hB.imp (fun k => hs.mono k) id, h W0 _ w (ha.put (dst_ok hd) undef) hs⟩
theorem RD.ent {Hs' : List Assn} (k : Ent (sep Hs) (sep Hs')) (h : RD P N ops Bs z Q ld e Hs') : RD P N ops Bs z Q ld e Hs := fun W0 a w ha hs => h W0 a w ha (hs.mono k)
theorem RD.ex {α : Type} {A : α → Assn} {L : List Assn} (h : ∀ x, RD P N ops Bs z Q ld e (A x :: L)) : RD P N ops Bs z Q ld e (Sl.ex A :: L) :=
  fun W0 a w ha hs => let ⟨x, hx⟩ := hs.out; h x W0 a w ha hx
theorem RD.live (ll : List (Nat × Value)) (hl : LiveIs e ll) (h : ∀ e', RD P N ops Bs z Q ld (updAll e' ll) Hs) : RD P N ops Bs z Q ld e Hs := by
  obtain ⟨e', rfl⟩ := live_ex hl
  exact h e'
theorem RD.split (d : Nat) {b : Bool} (hb : e d = .bool b) (ht : b = true → RD P N ops Bs z Q ld (upd e d (.bool true)) Hs) (hf : b = false → RD P N ops Bs z Q ld (upd e d (.bool false)) Hs) : RD P N ops Bs z Q ld e Hs := by
  have key : ∀ c, b = c → upd e d (.bool c) = e := by
    intro c hc
    funext t
    unfold upd
    cases h : Nat.beq t d with
    | false => rfl
    | true => rw [Nat.eq_of_beq_eq_true h, hb, hc]; rfl
  cases b with
  | true => have := ht rfl; rwa [key true rfl] at this
  | false => have := hf rfl; rwa [key false rfl] at this
end regions
end Go.Sl
namespace Go.Sl
open Go

/-- Block b is a row of these cells, all of them free to be written. -/
def row (b : Nat) (T : TypeId) (cs : List Value) : Assn := fun h => ∃ lo hi, h b = some (.cells cs.toArray T (lo, hi)) ∧ ∀ i, i < cs.length → ¬ (lo ≤ i ∧ i < hi)

theorem Sat.getRow {W0 w : World} {L : List Assn} {i b : Nat} {T : TypeId} {cs : List Value} (s : Sat W0 (sep L) w) (h : nth L i = some (row b T cs)) :
    ∃ lo hi, w.heap[b]? = some (.cells cs.toArray T (lo, hi)) ∧ ∀ i, i < cs.length → ¬ (lo ≤ i ∧ i < hi) := by
  obtain ⟨_, x, hx, ha⟩ := s.mono ((Ent.perm (perm_nth h)).trans (Ent.head _ _))
  obtain ⟨lo, hi, h1, h2⟩ := ha
  exact ⟨lo, hi, hx b _ h1, h2⟩
theorem Sat.cell {W0 w : World} {L : List Assn} {i b off : Nat} {T : TypeId} {cs : List Value} {v : Value} (s : Sat W0 (sep L) w) (h : nth L i = some (row b T cs)) (hv : cs[off]? = some v) :
    w.cell? ⟨b, off, none⟩ = some v := by
  obtain ⟨lo, hi, h1, _⟩ := s.getRow h
  unfold World.cell?
  simp only [h1]
  simp [hv]
theorem Sat.free {W0 w : World} {L : List Assn} {i b off : Nat} {T : TypeId} {cs : List Value} (s : Sat W0 (sep L) w) (h : nth L i = some (row b T cs)) (hv : off < cs.length) :
    w.frozen? ⟨b, off, none⟩ = false := by
  obtain ⟨lo, hi, h1, h2⟩ := s.getRow h
  unfold World.frozen?
  simp only [h1]
  have := h2 off hv
  simp
  omega
theorem row_of_block {b : Nat} {T : TypeId} {cs : List Value} {lo hi : Nat} (hf : ∀ i, i < cs.length → ¬ (lo ≤ i ∧ i < hi)) : Ent (blk b (.cells cs.toArray T (lo, hi))) (row b T cs) :=
  Ent.of_imp fun _ h => ⟨lo, hi, h, hf⟩
theorem Ent.at {L : List Assn} {i : Nat} {A B : Assn} (hn : nth L i = some A) (h : Ent A B) : Ent (sep L) (sep (setN L i B)) :=
  (Ent.perm (perm_nth hn)).trans ((Ent.cons h (Ent.refl _)).trans (Ent.perm (perm_setN hn)))
theorem nth_setN {α : Type} : ∀ {L : List α} {i : Nat} {a b : α}, nth L i = some a → nth (setN L i b) i = some b
  | [], _, _, _, h => by cases h
  | _ :: _, 0, _, _, _ => rfl
  | _ :: L, i + 1, _, _, h => nth_setN (L := L) (i := i) h
theorem setN_setN {α : Type} : ∀ {L : List α} {i : Nat} {a b : α}, setN (setN L i a) i b = setN L i b
  | [], _, _, _ => rfl
  | _ :: _, 0, _, _ => rfl
  | c :: L, i + 1, _, _ => congrArg (c :: ·) (setN_setN (L := L) (i := i))
theorem Sat.rowPut {W0 w w' : World} {L : List Assn} {i b lo hi : Nat} {T : TypeId} {cs cs' : List Value} (s : Sat W0 (sep L) w) (h : nth L i = some (row b T cs)) (hk : Kept w w')
    (hb : w'.heap[b]? = some (.cells cs'.toArray T (lo, hi))) (hf : ∀ i, i < cs'.length → ¬ (lo ≤ i ∧ i < hi)) (hr : ∀ k, k ≠ b → k < w.heap.size → w'.heap[k]? = w.heap[k]?) : Sat W0 (sep (setN L i (row b T cs'))) w' := by
  obtain ⟨k, x, hx, h1, h2, d, rfl, ⟨l0, h0, ha, hf0⟩, hl⟩ := s.mono (Ent.perm (perm_nth h))
  have s2 : Sat W0 (sep (blk b (.cells cs.toArray T (l0, h0)) :: delN L i)) w := ⟨k, _, hx, h1, h2, d, rfl, ha, hl⟩
  have s3 := s2.put (i := 0) (o' := .cells cs'.toArray T (lo, hi)) rfl hk hb hr
  exact s3.mono ((Ent.cons (row_of_block hf) (Ent.refl _)).trans (Ent.perm (perm_setN h)))
theorem Kept.setCell (w : World) (a : Addr) (v : Value) : Kept w (w.setCell a v) := ⟨rfl, rfl, rfl, by simp⟩
theorem heap_setCell (w : World) {b off lo hi : Nat} {T : TypeId} {cs : List Value} {v : Value} (h : w.heap[b]? = some (.cells cs.toArray T (lo, hi))) :
    (w.setCell ⟨b, off, none⟩ v).heap[b]? = some (.cells (cs.set off v).toArray T (lo, hi)) := by
  simp only [World.setCell, Array.getElem?_modify, if_true, h, Option.map_some]
  simp
theorem Sat.setCell {W0 w : World} {L : List Assn} {i b off : Nat} {T : TypeId} {cs : List Value} {v : Value} (s : Sat W0 (sep L) w) (h : nth L i = some (row b T cs)) :
    Sat W0 (sep (setN L i (row b T (cs.set off v)))) (w.setCell ⟨b, off, none⟩ v) := by
  obtain ⟨lo, hi, h1, h2⟩ := s.getRow h
  exact s.rowPut h (Kept.setCell _ _ _) (heap_setCell w h1) (by simpa using h2) (fun k hk _ => Go.RowKit.Below.heap_setCell w ⟨b, off, none⟩ v k hk)
theorem Sat.newRow {W0 w : World} {L : List Assn} (s : Sat W0 (sep L) w) (T : TypeId) (cs : List Value) : Sat W0 (sep (row w.heap.size T cs :: L)) (w.alloc (.cells cs.toArray T)) :=
  (s.alloc _).mono (Ent.cons (Ent.of_imp fun _ h => ⟨0, 0, h, fun _ _ => by omega⟩) (Ent.refl _))

/-! ### Types -/
/-- Type t is no struct and no array. -/
def Scalar (P : Program) (t : TypeId) : Prop := ∃ d, P.underlying t = some d ∧ (match d with | .struct _ => false | .array _ _ => false | _ => true) = true
/-- Type t is a struct or an array. -/
def IsAgg (P : Program) (t : TypeId) : Prop := ∃ d, P.underlying t = some d ∧ (match d with | .struct _ => true | .array _ _ => true | _ => false) = true
/-- Type t takes sz cells and so many bytes; its zero value's cells. -/
def TyInfo (P : Program) (t : TypeId) (sz bytes : Nat) (z : List Value) : Prop := ∃ i zv, P.info? t = some i ∧ i.size = sz ∧ i.bytes = bytes ∧ i.zero = some zv ∧ zv.cells.toList = z
def TySize (P : Program) (t : TypeId) (sz : Nat) : Prop := ∃ i, P.info? t = some i ∧ i.size = sz
/-- Field f of the struct t is of type ft and begins at cell off. -/
def FieldAt (P : Program) (t : TypeId) (f off : Nat) (ft : TypeId) : Prop := ∃ fs fd i, P.underlying t = some (.struct fs) ∧ fs[f]? = some fd ∧ fd.offset = off ∧ fd.type = ft ∧ P.info? ft = some i ∧ i.size ≠ 0
theorem TyInfo.size {P : Program} {t sz bytes : Nat} {z : List Value} (h : TyInfo P t sz bytes z) : TySize P t sz := let ⟨i, _, h1, h2, _⟩ := h; ⟨i, h1, h2⟩

section run
variable {P : Program} {w : World}
theorem run_underlying' {t : TypeId} {d : TypeDesc} (h : P.underlying t = some d) : (underlying t).run P w = .ok d w := by simp [underlying, h]
theorem run_isAgg_no {t : TypeId} (h : Scalar P t) : (isAgg t).run P w = .ok false w := by
  obtain ⟨d, h1, h2⟩ := h
  unfold isAgg
  simp only [Sem.run_bind, run_underlying' h1, Result.andThen_ok]
  cases d <;> first | rfl | cases h2
theorem run_isAgg_yes {t : TypeId} (h : IsAgg P t) : (isAgg t).run P w = .ok true w := by
  obtain ⟨d, h1, h2⟩ := h
  unfold isAgg
  simp only [Sem.run_bind, run_underlying' h1, Result.andThen_ok]
  cases d <;> first | rfl | cases h2
theorem run_sizeOf' {t : TypeId} {sz : Nat} (h : TySize P t sz) : (sizeOf t).run P w = .ok sz w := by
  obtain ⟨i, h1, h2⟩ := h
  simp [sizeOf, typeInfo, h1, h2]
theorem run_zeroValue' {t : TypeId} {sz bytes : Nat} {z : List Value} (h : TyInfo P t sz bytes z) : ∃ zv, zv.cells = z.toArray ∧ (zeroValue t).run P w = .ok zv w := by
  obtain ⟨i, zv, h1, h2, h3, h4, h5⟩ := h
  exact ⟨zv, by rw [← h5], by simp [zeroValue, typeInfo, h1, h4]⟩
theorem run_loadCellsFrom {b off : Nat} {cs : List Value} (hc : ∀ k v, cs[k]? = some v → w.cell? ⟨b, off + k, none⟩ = some v) :
    ∀ (n i : Nat) (acc : Array Value), i + n ≤ cs.length → (loadCellsFrom ⟨b, off, none⟩ i n acc).run P w = .ok (acc ++ ((cs.drop i).take n).toArray) w
  | 0, i, acc, _ => by simp [loadCellsFrom]
  | n + 1, i, acc, h => by
    have hlt : i < cs.length := by omega
    have hv : cs[i]? = some cs[i] := List.getElem?_eq_getElem hlt
    have ha : Addr.add ⟨b, off, none⟩ i = ⟨b, off + i, none⟩ := by unfold Addr.add; split <;> simp_all
    unfold loadCellsFrom
    simp only [Sem.run_bind, run_load, ha, hc i _ hv, Result.andThen_ok]
    rw [run_loadCellsFrom hc n (i + 1) _ (by omega)]
    congr 1
    rw [List.drop_eq_getElem_cons hlt, List.take_succ_cons]
    simp
theorem addr_add (b off n : Nat) : Addr.add ⟨b, off, none⟩ n = ⟨b, off + n, none⟩ := by unfold Addr.add; split <;> simp_all
theorem Sat.loadCells {W0 : World} {L : List Assn} {i b off n : Nat} {T : TypeId} {cs : List Value} (s : Sat W0 (sep L) w) (h : nth L i = some (row b T cs)) (hn : off + n ≤ cs.length) :
    (Go.loadCells ⟨b, off, none⟩ n).run P w = .ok ((cs.drop off).take n).toArray w := by
  unfold Go.loadCells
  rw [run_loadCellsFrom (cs := cs.drop off) (fun k v hk => s.cell h (by rw [List.getElem?_drop] at hk; exact hk)) n 0 #[] (by simp; omega)]
  simp
/-- vs laid over cs from cell k on. -/
def lay (cs : List Value) (k : Nat) : List Value → List Value
  | [] => cs
  | v :: vs => lay (cs.set k v) (k + 1) vs
theorem lay_length : ∀ (vs : List Value) (cs : List Value) (k : Nat), (lay cs k vs).length = cs.length
  | [], _, _ => rfl
  | v :: vs, cs, k => by rw [lay, lay_length vs]; simp
theorem lay_eq : ∀ (vs cs : List Value) (k : Nat), k + vs.length ≤ cs.length → lay cs k vs = cs.take k ++ vs ++ cs.drop (k + vs.length)
  | [], cs, k, _ => by simp [lay]
  | v :: vs, cs, k, h => by
    simp only [List.length_cons] at h
    have hk : k < cs.length := by omega
    rw [lay, lay_eq vs _ _ (by simp; omega)]
    apply List.ext_getElem?
    intro j
    simp only [List.getElem?_append, List.length_take, List.length_append, List.length_set, List.length_cons, List.getElem?_take, List.getElem?_drop, List.getElem?_set]
    repeat' split
    all_goals first
      | rfl
      | (exfalso; omega)
      | (congr 1; omega)
      | skip
    all_goals (simp only [List.getElem?_cons]; split <;> first | rfl | (exfalso; omega) | (congr 1; omega) | skip)
theorem Sat.storeCells {W0 : World} {L : List Assn} {i b off : Nat} {T : TypeId} : ∀ {vs cs : List Value} {k : Nat} {w : World}, Sat W0 (sep L) w → nth L i = some (row b T cs) →
    off + k + vs.length ≤ cs.length → (∀ v ∈ vs, v.oneCell' = true) →
    ∃ w', (Go.storeCells ⟨b, off, none⟩ vs k).run P w = .ok () w' ∧ Sat W0 (sep (setN L i (row b T (lay cs (off + k) vs)))) w' := by
  intro vs
  induction vs generalizing L with
  | nil =>
    intro cs k w s h _ _
    refine ⟨w, rfl, ?_⟩
    have e : ∀ {L : List Assn} {i : Nat} {A : Assn}, nth L i = some A → setN L i A = L := by
      intro L
      induction L with
      | nil => intro i A h; cases h
      | cons B L ih => intro i A h; cases i with
        | zero => simp only [nth, Option.some.injEq] at h; subst h; rfl
        | succ i => exact congrArg (B :: ·) (ih h)
    simp only [lay]
    rw [e h]
    exact s
  | cons v vs ih =>
    intro cs k w s h hl ho
    simp only [List.length_cons] at hl
    have hlt : off + k < cs.length := by omega
    unfold Go.storeCells
    simp only [Sem.run_bind, addr_add]
    rw [run_store P w _ v .plain (ho v (List.mem_cons_self ..)), s.cell h (List.getElem?_eq_getElem hlt)]
    simp only [s.free h hlt, Bool.false_eq_true, if_false, Result.andThen_ok]
    have s2 := s.setCell (off := off + k) (v := v) h
    obtain ⟨w', h1, h2⟩ := ih (cs := cs.set (off + k) v) (k := k + 1) s2 (nth_setN h) (by simp; omega) (fun u hu => ho u (List.mem_cons_of_mem _ hu))
    refine ⟨w', h1, ?_⟩
    rw [setN_setN] at h2
    exact h2
end run
end Go.Sl
