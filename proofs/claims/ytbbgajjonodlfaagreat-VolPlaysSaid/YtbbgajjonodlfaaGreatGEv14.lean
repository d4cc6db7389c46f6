/-
  The evaluator: regions. It proves nothing of the program by itself.
-/
import Derived.Test.YtbbgajjonodlfaaGreatGEv13
set_option linter.unusedVariables false
set_option linter.unusedSimpArgs false
namespace Go.Evl
open Go Go.Sl
/-- The marks that stand among an activation's deferred calls. -/
class Dfs where
  ds : List Deferred
structure EnvD [d : Dfs] (N : Nat) (a : Act) (e : Env) : Prop where
  defers : a.defers = d.ds
  size : a.tmps.size = N
  get : ∀ t, a.tmps.getD t undef = e t
theorem EnvD.eval [Dfs] {N : Nat} {a : Act} {e : Env} (h : EnvD N a e) : a.eval = ev e := by
  funext x
  cases x <;> simp only [Act.eval, ev]
  exact h.get _
theorem EnvD.put [Dfs] {N : Nat} {a : Act} {e : Env} (h : EnvD N a e) {d : Option Nat} (hd : ∀ x, d = some x → Nat.blt x N = true) (v : Value) : EnvD N (a.put d v) (updO e d v) := by
  have hk : EnvOk N { a with defers := [] } e := ⟨rfl, h.size, h.get⟩
  have := hk.put hd v
  cases d with
  | none => exact h
  | some x => exact ⟨h.defers, this.size, this.get⟩
theorem EnvOk.d {N : Nat} {a : Act} {e : Env} (h : EnvOk N a e) : @EnvD ⟨[]⟩ N a e := @EnvD.mk ⟨[]⟩ N a e h.defers h.size h.get
def noY : CallF := fun _ _ _ _ => false
section
variable {dfs : Dfs} {P : Program} {e : Env} {m : Map} {L E : En} {W0 w : World} {H : Hp} {Fr : Assn} {call : CallF}

/-! ### Guards -/
def dstB (ops : Array Oper) (j : Nat) : Option Nat := (ops[j]?).bind (·.dst)
/-- A truth value, or what an operation that was not wanted leaves. -/
noncomputable def gbK (v : AV) (Y : Bool) (K : Bool → Bool) : Bool := AV.rec (motive := fun _ => (Bool) → (Bool → Bool) → Bool) (fun _ _ => false) (fun x Y K => K x) (fun _ _ _ _ => false) (fun _ _ _ _ => false) (fun _ _ => false) (fun _ _ _ _ => false) (fun _ _ => false) (fun _ _ => false) (fun _ _ _ _ _ _ => false) (fun _ _ _ _ _ _ => false) (fun _ _ => false) (fun _ _ _ => false) (fun _ _ _ _ _ => false) (fun _ _ => false) (fun _ _ => false) (fun _ _ _ _ _ => false) (fun _ _ => false) (fun _ _ _ _ _ _ => false) (fun _ _ _ _ => false) (fun l _ Y K => Y) v Y K
theorem gbK_sound {v : AV} {Y : Bool} {K : Bool → Bool} (h : gbK v Y K = true) : (∃ b, v = .b b ∧ K b = true) ∨ (∃ l, v = .tup l ∧ Y = true) := by
  cases v with
  | b x => exact .inl ⟨x, rfl, h⟩
  | tup l => exact .inr ⟨l, rfl, h⟩
  | _ => cases h
/-- Is the operation wanted? -/
noncomputable def gdK (g : Option (Nat × Bool)) (ops : Array Oper) (L E : En) (X Y : Bool) : Bool := Option.rec (motive := fun _ => Array Oper → En → En → Bool → Bool → Bool) (fun _ _ _ X _ => X)
  (fun p ops L E X Y => optK (dstB ops p.1) fun d => gbK (look L E d) Y fun b => Bool.rec (motive := fun _ => Bool) (Bool.rec (motive := fun _ => Bool) X Y p.2) (Bool.rec (motive := fun _ => Bool) Y X p.2) b) g ops L E X Y
theorem gdK_sound {N : Nat} {ops : Array Oper} {a : Act} {o : Oper} {X Y : Bool} (ha : EnvD N a e) (he : EnvRel m L E e) (h : gdK o.guard ops L E X Y = true) :
    (Region.wanted o (yielded ops a.tmps) = true ∧ X = true) ∨ (Region.wanted o (yielded ops a.tmps) = false ∧ Y = true) := by
  unfold Region.wanted
  cases hg : o.guard with
  | none => rw [hg] at h; exact .inl ⟨rfl, h⟩
  | some p =>
    obtain ⟨j, b⟩ := p
    rw [hg] at h
    obtain ⟨d, h1, h2⟩ := optK_sound (o := dstB ops j) h
    unfold dstB at h1
    rcases gbK_sound h2 with ⟨x, h3, h4⟩ | ⟨l, h3, h4⟩
    · have hd : e d = .bool x := by have := he d; rw [h3] at this; exact this
      have hy : yielded ops a.tmps j = some x := by
        unfold yielded
        rw [h1]
        simp only [Option.bind_some]
        have := ha.get d
        rw [hd] at this
        simp only [Array.getD_eq_getD_getElem?] at this
        cases ht : a.tmps[d]? with
        | none => rw [ht] at this; cases this
        | some v => rw [ht] at this; simp only [Option.getD_some] at this; rw [this]
      simp only [hy]
      cases x <;> cases b <;> first | exact .inl ⟨rfl, h4⟩ | exact .inr ⟨rfl, h4⟩
    · have hd : ∃ vs : Array Value, e d = .tuple vs := by have := he d; rw [h3] at this; obtain ⟨vs, _, g⟩ := this; exact ⟨_, g⟩
      obtain ⟨vs, hd⟩ := hd
      have hy : yielded ops a.tmps j = none := by
        unfold yielded
        rw [h1]
        simp only [Option.bind_some]
        have := ha.get d
        rw [hd] at this
        simp only [Array.getD_eq_getD_getElem?] at this
        cases ht : a.tmps[d]? with
        | none => rfl
        | some v => rw [ht] at this; simp only [Option.getD_some] at this; rw [this]
      simp only [hy]
      exact .inr ⟨rfl, h4⟩
/-- The temporaries with one written. -/
noncomputable def dstL (d : Option Nat) (v : AV) (L : En) : En := Option.rec (motive := fun _ => AV → En → En) (fun _ L => L) (fun d v L => .cons d v L) d v L
theorem dstL_rel {d : Option Nat} {v : AV} {u : Value} (he : EnvRel m L E e) (hv : rel m v u) : EnvRel m (dstL d v L) E (updO e d u) := by
  cases d with
  | none => exact he
  | some d => exact he.cons hv
noncomputable def dstK (d : Option Nat) (v : AV) (L : En) (K : En → Bool) : Bool := Option.rec (motive := fun _ => AV → En → (En → Bool) → Bool) (fun _ L K => K L) (fun d v L K => K (.cons d v L)) d v L K
theorem dstK_eq {d : Option Nat} {v : AV} {K : En → Bool} : dstK d v L K = K (dstL d v L) := by cases d <;> rfl
theorem dstK_sound {d : Option Nat} {v : AV} {K : En → Bool} (h : dstK d v L K = true) : K (dstL d v L) = true := by rwa [dstK_eq] at h
def dstAll (N : Nat) (ops : Array Oper) : Bool := ops.toList.all fun o => match o.dst with | some d => Nat.blt d N | none => true
theorem dstAll_sound {N : Nat} {ops : Array Oper} (h : dstAll N ops = true) {i : Nat} {o : Oper} (ho : ops[i]? = some o) : ∀ x, o.dst = some x → Nat.blt x N = true := by
  intro x hx
  unfold dstAll at h
  have := List.all_eq_true.1 h o (by rw [← Array.getElem?_toList] at ho; exact List.mem_of_getElem? ho)
  rw [hx] at this
  exact this
abbrev RK := En → Hp → Bool
/-! ### In the order of the text -/
noncomputable def evOps (l : List Oper) : Array Oper → Program → Cl → En → En → Hp → RK → Bool :=
  List.rec (motive := fun _ => Array Oper → Program → Cl → En → En → Hp → RK → Bool) (fun _ _ _ L _ H K => K L H)
    (fun o _ ih ops P call L E H K => gdK o.guard ops L E (evOp o.op P call L E H fun v H => dstK o.dst v L fun L => ih ops P call L E H K) (dstK o.dst (.tup .nil) L fun L => ih ops P call L E H K)) l
/-- What a region leaves. -/
def RegQ [Dfs] (N : Nat) (W0 : World) (Fr : Assn) (m : Map) (E : En) (K : RK) (a' : Act) (w' : World) : Prop := ∃ e' m' L' H', EnvD N a' e' ∧ Map.le m m' ∧ Inv1 m' H' ∧ EnvRel m' L' E e' ∧ Mem W0 m' H' Fr w' ∧ K L' H' = true
theorem RegQ.mono {N : Nat} {m0 : Map} {K : RK} {a' : Act} {w' : World} (hm : Map.le m0 m) (h : RegQ N W0 Fr m E K a' w') : RegQ N W0 Fr m0 E K a' w' := by
  obtain ⟨e', m', L', H', h1, h2, h3⟩ := h
  exact ⟨e', m', L', H', h1, Map.le_trans hm h2, h3⟩
/-- An operation carried out. -/
theorem upon_of {N : Nat} {ops : Array Oper} {a : Act} {o : Oper} {K : HK} {next : Act → World → Prop} {Q : Exit → Act → World → Prop} (ha : EnvD N a e) (hx : EX False P e o W0 Fr m w K)
    (hn : ∀ v w', Post1 W0 Fr m K v w' → next (a.put o.dst v) w') : o.wp P a w next Q := by
  unfold Oper.wp
  rw [ha.eval]
  rcases hx with ⟨v, w', hr, hp⟩ | ⟨f, args, hr, hc⟩ | ⟨hh, _⟩
  rotate_right
  · exact hh.elim
  · rcases hr with hr | ⟨hr, rfl⟩
    · rw [hr]; exact hn v w' hp
    · rw [hr]; exact hn undef w' hp
  · rw [hr]
    refine hc.mono ?_
    rintro en w' ⟨v, rfl, hp⟩
    exact hn v w' hp
/-- The same, in a round as well. -/
theorem upon_ofIn {N n : Nat} {ro : Option Nat} {a : Act} {o : Oper} {K : HK} {next : Act → World → Prop} {Q : Exit → Act → World → Prop} (ha : EnvD N a e) (hnd : ∀ c, o.op ≠ .defer c) (hx : EX True P e o W0 Fr m w K)
    (hn : ∀ v w', Post1 W0 Fr m K v w' → next (a.put o.dst v) w') : o.wpIn (FW ro) n P a w next Q := by
  refine ⟨fun _ _ => trivial, ?_⟩
  rw [Oper.semAt_eq _ _ _ hnd, ha.eval]
  rcases hx with ⟨v, w', hr, hp⟩ | ⟨f, args, hr, hc⟩ | ⟨_, b, fn, tmps, assign, body, hr, hc⟩
  · rcases hr with hr | ⟨hr, rfl⟩
    · rw [hr]; exact hn v w' hp
    · rw [hr]; exact hn undef w' hp
  · rw [hr]
    refine ⟨fun g => (FW_deep g).elim, calls_FW (hc.mono ?_)⟩
    rintro en w' ⟨v, rfl, hp⟩
    exact hn v w' hp
  · rw [hr]
    refine ⟨fun g => (FW_deep g).elim, round_FW ((hc _).mono ?_)⟩
    rintro en w' ⟨v, rfl, hp⟩
    exact hn v w' hp
theorem evOps_sound {N n : Nat} {ro : Option Nat} {ops : Array Oper} {K : RK} {call : Cl} {m0 : Map} (hcall : CallOk True P call) (hd : dstAll N ops = true) (hnd : noDef ops = true) : ∀ (l : List Oper) (i : Nat) {L : En} {H : Hp} {m : Map} {e : Env} {a : Act} {w : World}, ops.toList.drop i = l → Map.le m0 m → EnvD N a e → EnvRel m L E e → Inv1 m H → Mem W0 m H Fr w →
    evOps l ops P call L E H K = true → wpOpsIn (FW ro) n P ops (fun x a' w' => x = .normal ∧ RegQ N W0 Fr m0 E K a' w') (List.range' i l.length) a w
  | [], i, L, H, m, e, a, w, hl, hm, ha, he, hi, hs, h => ⟨rfl, e, m, L, H, ha, hm, hi, he, hs, h⟩
  | o :: l, i, L, H, m, e, a, w, hl, hm, ha, he, hi, hs, h => by
    rw [List.length_cons, List.range'_succ, wpOpsIn_cons]
    have ho : ops[i]? = some o := by
      rw [← Array.getElem?_toList]
      have : (ops.toList.drop i)[0]? = some o := by rw [hl]; rfl
      rwa [List.getElem?_drop, Nat.add_zero] at this
    have hl' : ops.toList.drop (i + 1) = l := by rw [← List.drop_drop, hl]; rfl
    unfold wpOpIn
    rw [ho]
    have h : gdK o.guard ops L E (evOp o.op P call L E H fun v H => dstK o.dst v L fun L => evOps l ops P call L E H K) (dstK o.dst (.tup .nil) L fun L => evOps l ops P call L E H K) = true := h
    have hput : ∀ v, EnvD N (a.put o.dst v) (updO e o.dst v) := fun v => ha.put (dstAll_sound hd ho) v
    rcases gdK_sound ha he h with ⟨hw, h1⟩ | ⟨hw, h1⟩
    · simp only [hw, if_true]
      refine upon_ofIn ha (noDef_sound hnd ho) (evOp_sound hcall hi he hs h1) ?_
      rintro v w' ⟨m', H', av, k1, k2, k3, k4, k5⟩
      replace k5 := dstK_sound k5
      exact evOps_sound hcall hd hnd l (i + 1) hl' (Map.le_trans hm k1) (hput v) (dstL_rel (he.mono k1) k3) k2 k4 k5
    · simp only [hw, Bool.false_eq_true, if_false]
      replace h1 := dstK_sound h1
      exact ⟨fun _ _ => trivial, evOps_sound hcall hd hnd l (i + 1) hl' hm (hput undef) (dstL_rel he (show rel m (.tup .nil) undef from ⟨[], rfl, rfl⟩)) hi hs h1⟩

/-! ### In a drawn order -/
/-- What was read, and must stay so. -/
inductive PL where
  | nil
  | cons (i : Nat) (op : Op) (L : En) (v : AV) (r : PL)
/-- The same value, told to the end. -/
def sameD : AV → AV → Bool
  | .b x, .b y => x == y
  | .i k n, .i k' n' => Nat.beq (eqV.kc' k) (eqV.kc' k') && decide (n = n')
  | .s l n, .s l' n' => eqV.strEqD l n l' n'
  | .pn, .pn => true
  | .p i o, .p i' o' => Nat.beq i i' && Nat.beq o o'
  | .sn, .sn => true
  | .sl i o n c, .sl i' o' n' c' => Nat.beq i i' && (Nat.beq o o' && (Nat.beq n n' && Nat.beq c c'))
  | .sv i o n c, .sv i' o' n' c' => Nat.beq i i' && (Nat.beq o o' && (Nat.beq n n' && Nat.beq c c'))
  | .mn, .mn => true
  | .m i, .m i' => Nat.beq i i'
  | .fnil, .fnil => true
  | .inil, .inil => true
  | .ifc t v, .ifc t' v' => Nat.beq t t' && sameD v v'
  | .nil, .nil => true
  | .cons a t, .cons a' t' => sameD a a' && sameD t t'
  | .agg l, .agg l' => sameD l l'
  | .tup l, .tup l' => sameD l l'
  | _, _ => false
theorem nbeq {a b : Nat} (h : Nat.beq a b = true) : a = b := Nat.eq_of_beq_eq_true h
theorem sameD_sound {m m' : Map} (hm : Map.le m m') : ∀ {a b : AV}, sameD a b = true → (∀ {u u'}, rel m a u → rel m' b u' → u' = u) ∧ (∀ {u u'}, relL m a u → relL m' b u' → u' = u) := by
  intro a
  induction a with
  | b x => intro b h; cases b <;> first | (cases h; done) | skip
           rename_i y
           have : x = y := by simpa [sameD] using h
           subst this
           exact ⟨fun r r' => by rw [show _ = _ from r, show _ = _ from r'], fun r => r.elim⟩
  | i k n => intro b h; cases b <;> first | (cases h; done) | skip
             rename_i k' n'
             simp only [sameD, Bool.and_eq_true, kc'_eq, decide_eq_true_eq] at h
             obtain ⟨rfl, rfl⟩ := h
             exact ⟨fun r r' => by rw [show _ = _ from r, show _ = _ from r'], fun r => r.elim⟩
  | s l n => intro b h; cases b <;> first | (cases h; done) | skip
             rename_i l' n'
             have h : bytesOf l n = bytesOf l' n' := by simpa [sameD, strEqD_eq] using h
             exact ⟨fun r r' => by rw [show _ = _ from r, show _ = _ from r', h], fun r => r.elim⟩
  | pn => intro b h; cases b <;> first | (cases h; done) | exact ⟨fun r r' => by rw [show _ = _ from r, show _ = _ from r'], fun r => r.elim⟩
  | sn => intro b h; cases b <;> first | (cases h; done) | exact ⟨fun r r' => by rw [show _ = _ from r, show _ = _ from r'], fun r => r.elim⟩
  | mn => intro b h; cases b <;> first | (cases h; done) | exact ⟨fun r r' => by rw [show _ = _ from r, show _ = _ from r'], fun r => r.elim⟩
  | fnil => intro b h; cases b <;> first | (cases h; done) | exact ⟨fun r r' => by rw [show _ = _ from r, show _ = _ from r'], fun r => r.elim⟩
  | inil => intro b h; cases b <;> first | (cases h; done) | exact ⟨fun r r' => by rw [show _ = _ from r, show _ = _ from r'], fun r => r.elim⟩
  | p i o => intro b h; cases b <;> first | (cases h; done) | skip
             simp only [sameD, Bool.and_eq_true] at h
             have h1 := nbeq h.1; have h2 := nbeq h.2; subst h1 h2
             refine ⟨?_, fun r => r.elim⟩
             rintro u u' ⟨b, c, r1, rfl⟩ ⟨b', c', r2, rfl⟩
             rw [hm _ _ r1] at r2; cases r2; rfl
  | sl i o n c => intro b h; cases b <;> first | (cases h; done) | skip
                  simp only [sameD, Bool.and_eq_true] at h
                  have h1 := nbeq h.1; have h2 := nbeq h.2.1; have h3 := nbeq h.2.2.1; have h4 := nbeq h.2.2.2; subst h1 h2 h3 h4
                  refine ⟨?_, fun r => r.elim⟩
                  rintro u u' ⟨b, c, r1, rfl, _⟩ ⟨b', c', r2, rfl, _⟩
                  rw [hm _ _ r1] at r2; cases r2; rfl
  | sv i o n c => intro b h; cases b <;> first | (cases h; done) | skip
                  simp only [sameD, Bool.and_eq_true] at h
                  have h1 := nbeq h.1; have h2 := nbeq h.2.1; have h3 := nbeq h.2.2.1; have h4 := nbeq h.2.2.2; subst h1 h2 h3 h4
                  refine ⟨?_, fun r => r.elim⟩
                  rintro u u' ⟨b, c, r1, _, rfl⟩ ⟨b', c', r2, _, rfl⟩
                  rw [hm _ _ r1] at r2; cases r2; rfl
  | m i => intro b h; cases b <;> first | (cases h; done) | skip
           have h1 := nbeq (show Nat.beq _ _ = true from h); subst h1
           refine ⟨?_, fun r => r.elim⟩
           rintro u u' ⟨b, c, r1, rfl⟩ ⟨b', c', r2, rfl⟩
           rw [hm _ _ r1] at r2; cases r2; rfl
  | ifc t v ih => intro b h; cases b <;> first | (cases h; done) | skip
                  simp only [sameD, Bool.and_eq_true] at h
                  have h1 := nbeq h.1; subst h1
                  refine ⟨?_, fun r => r.elim⟩
                  rintro u u' ⟨x, r1, rfl⟩ ⟨x', r2, rfl⟩
                  rw [(ih h.2).1 r1 r2]
  | nil => intro b h; cases b <;> first | (cases h; done) | exact ⟨fun r => r.elim, fun r r' => by rw [show _ = _ from r, show _ = _ from r']⟩
  | cons x t ih1 ih2 => intro b h; cases b <;> first | (cases h; done) | skip
                        simp only [sameD, Bool.and_eq_true] at h
                        refine ⟨fun r => r.elim, ?_⟩
                        rintro u u' ⟨y, ys, r1, r2, rfl⟩ ⟨y', ys', r3, r4, rfl⟩
                        rw [(ih1 h.1).1 r1 r3, (ih2 h.2).2 r2 r4]
  | agg l ih => intro b h; cases b <;> first | (cases h; done) | skip
                refine ⟨?_, fun r => r.elim⟩
                rintro u u' ⟨x, r1, rfl⟩ ⟨x', r2, rfl⟩
                rw [(ih h).2 r1 r2]
  | tup l ih => intro b h; cases b <;> first | (cases h; done) | skip
                refine ⟨?_, fun r => r.elim⟩
                rintro u u' ⟨x, r1, rfl⟩ ⟨x', r2, rfl⟩
                rw [(ih h).2 r1 r2]
  | _ => intro b h; cases h
noncomputable def checkK (pl : PL) (ops : Array Oper) (j : Nat) (P : Program) (E : En) (H : Hp) : (PL → Bool) → Bool := PL.rec (motive := fun _ => (PL → Bool) → Bool) (fun K => K .nil)
  (fun i op L v _ ih K => Bool.rec (motive := fun _ => Bool) (loadOp op P L E H fun v' => andK (sameD v v') (ih fun r => K (.cons i op L v r))) (ih K) (wt .any ops j i)) pl
/-- The list tells what is asked of the world. -/
def PdRel (P : Program) (m : Map) (E : En) : PL → (Nat → World → Prop) → Prop
  | .nil, S => ∀ i w, S i w
  | .cons i op L v r, S => ∃ S0 e u o, o.op = op ∧ EnvRel m L E e ∧ rel m v u ∧ PdRel P m E r S0 ∧ ∀ j w, S0 j w → (j = i → (execOp (ev e) o).run P w = .ok (.value u) w) → S j w
theorem PdRel.mono {m m' : Map} (hm : Map.le m m') : ∀ {pl : PL} {S S' : Nat → World → Prop}, (∀ i w, S i w → S' i w) → PdRel P m E pl S → PdRel P m' E pl S'
  | .nil, S, S', hs, h => fun i w => hs i w (h i w)
  | .cons i op L v r, S, S', hs, ⟨S0, e, u, o, h1, h2, h3, h4, h5⟩ => ⟨S0, e, u, o, h1, h2.mono hm, h3.mono hm, PdRel.mono hm (fun _ _ h => h) h4, fun j w k1 k2 => hs _ _ (h5 j w k1 k2)⟩
theorem checkK_sound {ops : Array Oper} {j : Nat} {m' : Map} {H' : Hp} {w' : World} (hm : Map.le m m') (hi : Inv1 m' H') (hs : Mem W0 m' H' Fr w') : ∀ {pl : PL} {S : Nat → World → Prop} {K : PL → Bool}, PdRel P m E pl S → checkK pl ops j P E H' K = true →
    ∃ pl', K pl' = true ∧ PdRel P m' E pl' (dropS .any ops S j) ∧ ∀ i, dropS .any ops S j i w'
  | .nil, S, K, hp, h => ⟨.nil, h, fun i w => .inl (hp i w), fun i => .inl (hp i w')⟩
  | .cons i op L v r, S, K, ⟨S0, e, u, o, h1, h2, h3, h4, h5⟩, h => by
    have h : Bool.rec (motive := fun _ => Bool) (loadOp op P L E H' fun v' => andK (sameD v v') (checkK r ops j P E H' fun r => K (.cons i op L v r))) (checkK r ops j P E H' K) (wt .any ops j i) = true := h
    cases hw : wt .any ops j i with
    | true =>
      rw [hw] at h
      obtain ⟨pl', k1, k2, k3⟩ := checkK_sound hm hi hs h4 h
      have key : ∀ k w, dropS .any ops S0 j k w → dropS .any ops S j k w := fun k w g => by
        rcases g with g | g
        · by_cases hk : k = i
          · subst hk; exact .inr hw
          · exact .inl (h5 k w g (fun hh => absurd hh hk))
        · exact .inr g
      exact ⟨pl', k1, k2.mono (Map.le_refl _) key, fun k => key k w' (k3 k)⟩
    | false =>
      rw [hw] at h
      obtain ⟨v', u', k1, k2, k3⟩ := loadOp_sound (o := o) hi (h2.mono hm) hs (by rw [h1]; exact h)
      obtain ⟨k4, k5⟩ := andK_sound k3
      have hu : u' = u := (sameD_sound hm k4).1 h3 k2
      subst hu
      obtain ⟨pl', k6, k7, k8⟩ := checkK_sound hm hi hs h4 k5
      refine ⟨_, k6, ⟨dropS .any ops S0 j, e, u', o, h1, h2.mono hm, h3.mono hm, k7, ?_⟩, fun k => ?_⟩
      · intro k w g1 g2
        rcases g1 with g1 | g1
        · exact .inl (h5 k w g1 g2)
        · exact .inr g1
      · rcases k8 k with g1 | g1
        · exact .inl (h5 k w' g1 (fun _ => k1))
        · exact .inr g1
theorem wpXS_mono1 {ops : Array Oper} {Q1 Q2 : Act → World → Prop} (hq : ∀ a w, Q1 a w → Q2 a w) : ∀ (l : List (Nat × Kd3)) (S : Nat → World → Prop) (a : Act) (w : World), wpXS P .any ops Q1 l S a w → wpXS P .any ops Q2 l S a w
  | [], S, a, w, h => hq _ _ h
  | (i, .pure) :: l, S, a, w, ⟨o, v, h1, h2, h3⟩ => ⟨o, v, h1, h2, wpXS_mono1 hq l _ _ _ h3⟩
  | (i, .load) :: l, S, a, w, ⟨o, v, Si, h1, h2, h3, h4⟩ => ⟨o, v, Si, h1, h2, h3, wpXS_mono1 hq l _ _ _ h4⟩
  | (i, .eff) :: l, S, a, w, h => wpOp_mono (fun a' w' h' => ⟨h'.1, wpXS_mono1 hq l _ _ _ h'.2⟩) h
noncomputable def evDraw (l : List (Nat × Kd3)) : Array Oper → Program → CallF → PL → En → En → Hp → RK → Bool :=
  List.rec (motive := fun _ => Array Oper → Program → CallF → PL → En → En → Hp → RK → Bool) (fun _ _ _ _ L _ H K => K L H)
    (fun p _ ih ops P call pl L E H K => optK (ops[p.1]?) fun o => Kd3.rec (motive := fun _ => Bool)
      (gdK o.guard ops L E (pureOp o.op P L E fun v => dstK o.dst v L fun L => ih ops P call pl L E H K) (dstK o.dst (.tup .nil) L fun L => ih ops P call pl L E H K))
      (gdK o.guard ops L E (loadOp o.op P L E H fun v => dstK o.dst v L fun L' => ih ops P call (.cons p.1 o.op L v pl) L' E H K) (dstK o.dst (.tup .nil) L fun L => ih ops P call pl L E H K))
      (gdK o.guard ops L E (evOp o.op P ⟨call, noY⟩ L E H fun v H => checkK pl ops p.1 P E H fun pl => dstK o.dst v L fun L => ih ops P call pl L E H K) (dstK o.dst (.tup .nil) L fun L => ih ops P call pl L E H K)) p.2) l
theorem evDraw_sound {N : Nat} {ops : Array Oper} {K : RK} (hcall : CallOk False P ⟨call, noY⟩) (hd : dstAll N ops = true) : ∀ (l : List (Nat × Kd3)) {pl : PL} {S : Nat → World → Prop} {L : En} {H : Hp} {m : Map} {e : Env} {a : Act} {w : World}, PdRel P m E pl S → (∀ i, S i w) → EnvD N a e → EnvRel m L E e → Inv1 m H → Mem W0 m H Fr w →
    evDraw l ops P call pl L E H K = true → wpXS P .any ops (RegQ N W0 Fr m E K) l S a w
  | [], pl, S, L, H, m, e, a, w, _, _, ha, he, hi, hs, h => ⟨e, m, L, H, ha, Map.le_refl m, hi, he, hs, h⟩
  | (i, kd) :: l, pl, S, L, H, m, e, a, w, hp, hS, ha, he, hi, hs, h => by
    obtain ⟨o, ho, h⟩ := optK_sound (o := ops[i]?) h
    have hput : ∀ v, EnvD N (a.put o.dst v) (updO e o.dst v) := fun v => ha.put (dstAll_sound hd ho) v
    cases kd with
    | pure =>
      rcases gdK_sound ha he h with ⟨hw, h1⟩ | ⟨hw, h1⟩
      · obtain ⟨av, v, h2, h3, h4⟩ := pureOp_sound he h1
        replace h4 := dstK_sound h4
        exact ⟨o, v, ho, .inl ⟨hw, fun w' => by rw [ha.eval]; exact h2 w'⟩, evDraw_sound hcall hd l hp hS (hput v) (dstL_rel he h3) hi hs h4⟩
      · replace h1 := dstK_sound h1
        exact ⟨o, undef, ho, .inr ⟨hw, rfl⟩, evDraw_sound hcall hd l hp hS (hput undef) (dstL_rel he (show rel m (.tup .nil) undef from ⟨[], rfl, rfl⟩)) hi hs h1⟩
    | load =>
      rcases gdK_sound ha he h with ⟨hw, h1⟩ | ⟨hw, h1⟩
      · obtain ⟨av, v, h2, h3, h4⟩ := loadOp_sound hi he hs h1
        replace h4 := dstK_sound h4
        refine ⟨o, v, fun w' => (execOp (ev e) o).run P w' = .ok (.value v) w', ho, .inl ⟨hw, fun w' hw' => by rw [ha.eval]; exact hw'⟩, h2, ?_⟩
        exact evDraw_sound hcall hd l (pl := .cons i o.op L av pl) ⟨S, e, v, o, rfl, he, h3, hp, fun j w' k1 k2 => ⟨k1, k2⟩⟩ (fun k => ⟨hS k, fun _ => h2⟩) (hput v) (dstL_rel he h3) hi hs h4
      · replace h1 := dstK_sound h1
        refine ⟨o, undef, fun _ => True, ho, .inr ⟨hw, rfl⟩, trivial, ?_⟩
        exact evDraw_sound hcall hd l (hp.mono (Map.le_refl m) fun j w' g => ⟨g, fun _ => trivial⟩) (fun k => ⟨hS k, fun _ => trivial⟩) (hput undef) (dstL_rel he (show rel m (.tup .nil) undef from ⟨[], rfl, rfl⟩)) hi hs h1
    | eff =>
      unfold wpXS wpOp
      rw [ho]
      rcases gdK_sound ha he h with ⟨hw, h1⟩ | ⟨hw, h1⟩
      · simp only [hw, if_true]
        left
        refine upon_of (ops := ops) ha (evOp_sound hcall hi he hs h1) ?_
        rintro v w' ⟨m', H', av, k1, k2, k3, k4, k5⟩
        obtain ⟨pl', k6, k7, k8⟩ := checkK_sound k1 k2 k4 hp k5
        replace k6 := dstK_sound k6
        refine ⟨k8, ?_⟩
        exact wpXS_mono1 (fun a w h => h.mono k1) _ _ _ _ (evDraw_sound (m := m') hcall hd l k7 k8 (hput v) (dstL_rel (he.mono k1) k3) k2 k4 k6)
      · simp only [hw, Bool.false_eq_true, if_false]
        replace h1 := dstK_sound h1
        exact ⟨fun k => .inl (hS k), evDraw_sound hcall hd l (hp.mono (Map.le_refl m) fun j w' g => .inl g) (fun k => .inl (hS k)) (hput undef) (dstL_rel he (show rel m (.tup .nil) undef from ⟨[], rfl, rfl⟩)) hi hs h1⟩

/-! ### An order for a region -/
noncomputable def kindC (P : Program) (d : TypeId) (s : TypeId) : Kd3 := Bool.rec (motive := fun _ => Kd3) (Bool.rec (motive := fun _ => Kd3) .pure .eff (Nat.beq (tyc P s) 7)) (Bool.rec (motive := fun _ => Kd3) .pure .load (Nat.beq (tyc P s) 3)) (Nat.beq (tyc P d) 7)
noncomputable def kindCall (c : Call) : Kd3 := Callee.rec (motive := fun _ => Kd3) (fun _ => .eff) (fun _ _ => .eff) (fun b => Builtin.rec (motive := fun _ => Kd3) .eff .pure .eff .eff .eff .eff .eff .eff .pure .eff .pure .pure .eff .eff .eff .eff .eff .eff .eff .eff .eff .eff .eff .eff .eff .eff b) c.callee
noncomputable def kindOf (P : Program) (op : Op) : Kd3 := Op.rec (motive := fun _ => Program → Kd3) (fun a0 P => .pure) (fun a0 P => .pure) (fun a0 a1 a2 P => .pure) (fun a0 P => .eff) (fun a0 a1 P => .eff) (fun a0 a1 P => .pure) (fun a0 a1 a2 P => .eff) (fun a0 a1 a2 a3 P => .eff) (fun a0 a1 P => .load) (fun a0 a1 a2 P => .eff) (fun a0 P => .eff) (fun a0 P => .eff) (fun a0 P => .pure) (fun a0 a1 a2 a3 a4 P => .pure) (fun a0 a1 a2 P => .pure) (fun a0 a1 a2 P => (kindC P a1 a0)) (fun a0 a1 P => .eff) (fun a0 a1 P => .pure) (fun a0 a1 a2 P => .pure) (fun a0 a1 P => .eff) (fun a0 a1 P => .eff) (fun a0 a1 a2 P => .eff) (fun a0 a1 a2 a3 a4 P => .pure) (fun a0 a1 a2 P => .pure) (fun a0 a1 a2 P => .pure) (fun a0 a1 a2 P => .pure) (fun a0 a1 a2 P => .pure) (fun a0 a1 a2 a3 P => .load) (fun a0 a1 a2 a3 P => .eff) (fun a0 a1 a2 P => .eff) (fun a0 a1 a2 a3 P => .eff) (fun a0 a1 P => .eff) (fun a0 a1 P => .eff) (fun a0 P => .eff) (fun a0 a1 a2 a3 P => .pure) (fun a0 a1 P => .pure) (fun a0 P => (kindCall a0)) (fun a0 P => .eff) (fun a0 P => .eff) (fun a0 P => .eff) (fun a0 a1 P => .eff) (fun a0 a1 a2 P => .eff) (fun a0 a1 P => .eff) op P
noncomputable def firstK (P : Program) (ops : Array Oper) (listed : Array Bool) (l : List Nat) : Option (Nat × Kd3) := List.rec (motive := fun _ => Option (Nat × Kd3)) none (fun i _ ih => Option.rec (motive := fun _ => Option (Nat × Kd3)) ih
  (fun o => Kd3.rec (motive := fun _ => Option (Nat × Kd3)) (some (i, .pure)) (some (i, .load)) ih (kindOf P o.op)) (ops[i]?)) l
noncomputable def mkOrd (P : Program) (ops : Array Oper) (n : Nat) : Array Bool → List (Nat × Kd3) := Nat.rec (motive := fun _ => Array Bool → List (Nat × Kd3)) (fun _ => [])
  (fun _ ih listed => List.rec (motive := fun _ => List (Nat × Kd3)) [] (fun j _ _ => Option.rec (motive := fun _ => List (Nat × Kd3)) ((j, .eff) :: ih (listed.setIfInBounds j true)) (fun p => p :: ih (listed.setIfInBounds p.1 true)) (firstK P ops listed (Region.ready .any ops listed))) (Region.ready .any ops listed)) n
def ordAll (ops : Array Oper) (l : List (Nat × Kd3)) : Bool := Region.noSelect ops && (Nat.beq l.length ops.size && ordOkS .any ops l (Array.replicate ops.size false))
end
end Go.Evl
