/-
  Drawn orders with new blocks that may come up at any time. It proves nothing of the program by itself.
-/
import Derived.Test.YtbbgajjonodlfaaGreatGEv14
set_option linter.unusedVariables false
set_option linter.unusedSimpArgs false
namespace Go.Evl
open Go Go.Sl
/-! ### What the new block will be -/
abbrev SpK := Nat → Nat → Body → (Nat → AV) → Bool
noncomputable def spAlloc (t : TypeId) (P : Program) (L E : En) (K : SpK) : Bool := optK (tyB P t) fun q => bodyK (bodyOf q.2.2) fun c => K t 0 c fun id => .p id 0
noncomputable def spMake (t : TypeId) (x y : Operand) (P : Program) (L E : En) (K : SpK) : Bool := optK (slElB P t) fun el => optK (tyB P el) fun q => andK (Nat.beq q.2.2.length q.1) (ints (opV x L E) (opV y L E) fun k a b =>
  andK (Nat.beq (kc k) 3) (nn a b (fun n c => andK (Nat.ble n c) (andK (Nat.ble c 9223372036854775807) (andK (Nat.ble (Nat.mul q.2.1 c) 281474976710656) (natK n fun n => natK c fun c => bodyK (repBody c q.2.2) fun bd => K el 0 bd fun id => .sl id 0 n c)))) fun _ _ => false))
noncomputable def spConv (s d : TypeId) (x : Operand) (P : Program) (L E : En) (K : SpK) : Bool := andK (Nat.beq (tyc P s) 7) (andK (u8El P d) (optK (slElB P d) fun el => asS (opV x L E) fun l n => andK (Nat.ble l 9223372036854775807) (natK l fun l => natK n fun n => K el 1 (.bs l n) fun id => .sv id 0 l 0)))
noncomputable def spLit (t : TypeId) (n : Nat) (ps : Array (Nat × Operand)) (P : Program) (L E : En) (K : SpK) : Bool := optK (slElB P t) fun el => optK (tyB P el) fun q => andK (Nat.beq q.2.2.length q.1) (andK (Nat.ble (Nat.mul n q.1) 16777216) (
  bodyK (repBody n q.2.2) fun bd => fillK ((List.range n).map fun i => (i * q.1, q.1)) L E ps.toList bd fun c => K el 0 c fun id => .sl id 0 n n))
noncomputable def spOp (op : Op) : Program → En → En → SpK → Bool := Op.rec (motive := fun _ => Program → En → En → SpK → Bool) (fun _ _ _ _ _ => false) (fun _ _ _ _ _ => false) (fun _ _ _ _ _ _ _ => false) spAlloc (fun _ _ _ _ _ _ => false) (fun _ _ _ _ _ _ => false) spLit (fun _ _ _ _ _ _ _ _ => false) (fun _ _ _ _ _ _ => false) (fun _ _ _ _ _ _ _ => false) (fun _ _ _ _ _ => false) (fun _ _ _ _ _ => false) (fun _ _ _ _ _ => false) (fun _ _ _ _ _ _ _ _ _ => false) (fun _ _ _ _ _ _ _ => false) spConv (fun _ _ _ _ _ _ => false) (fun _ _ _ _ _ _ => false) (fun _ _ _ _ _ _ _ => false) (fun _ _ _ _ _ _ => false) (fun _ _ _ _ _ _ => false) spMake (fun _ _ _ _ _ _ _ _ _ => false) (fun _ _ _ _ _ _ _ => false) (fun _ _ _ _ _ _ _ => false) (fun _ _ _ _ _ _ _ => false) (fun _ _ _ _ _ _ _ => false) (fun _ _ _ _ _ _ _ _ => false) (fun _ _ _ _ _ _ _ _ => false) (fun _ _ _ _ _ _ _ => false) (fun _ _ _ _ _ _ _ _ => false) (fun _ _ _ _ _ _ => false) (fun _ _ _ _ _ _ => false) (fun _ _ _ _ _ => false) (fun _ _ _ _ _ _ _ _ => false) (fun _ _ _ _ _ _ => false) (fun _ _ _ _ _ => false) (fun _ _ _ _ _ => false) (fun _ _ _ _ _ => false) (fun _ _ _ _ _ => false) (fun _ _ _ _ _ _ => false) (fun _ _ _ _ _ _ _ => false) (fun _ _ _ _ _ _ => false) op
section
variable {dfs : Dfs} {P : Program} {e : Env} {m : Map} {L E : En} {W0 w : World} {H : Hp} {Fr : Assn} {call : CallF} {o : Oper}
def AlcOk (P : Program) (e : Env) (o : Oper) (m0 : Map) (T z : Nat) (c : Body) (f : Nat → AV) : Prop :=
  ∀ (W0 : World) (Hs : List Assn) (w : World), Sat W0 (sep Hs) w → ∃ v w' b cap vs rest, (execOp (ev e) o).run P w = .ok (.value v) w' ∧ Sat W0 (sep (row b T (vs ++ rest) :: Hs)) w' ∧ bodyRel m0 c vs ∧ restOk z cap vs rest ∧ ∀ (m : Map) (id : Nat), m id = some (b, cap) → rel m (f id) v
theorem spLit_sound {K : SpK} {t : TypeId} {n : Nat} {ps : Array (Nat × Operand)} (hop : o.op = .buildSlice t n ps) (he : EnvRel m L E e) (h : spLit t n ps P L E K = true) : ∃ T z c f, AlcOk P e o m T z c f ∧ K T z c f = true := by
  obtain ⟨el, h1, h2⟩ := optK_sound h
  obtain ⟨⟨sz, bytes, z⟩, h3, h4⟩ := optK_sound h2
  obtain ⟨h5, h6⟩ := andK_sound h4
  obtain ⟨h7, h8⟩ := andK_sound h6
  rw [bodyK_eq] at h8
  have hzl : z.length = sz := Nat.eq_of_beq_eq_true h5
  obtain ⟨inf, zv, hi1, hi2, hi3, hi4, hi5⟩ := tyB_sound h3
  have hzv : zv.cells = z.toArray := by rw [← hi5]
  have hp : ∀ i x, ((List.range n).map fun i => (i * sz, sz))[i]? = some x → (fun i => some (i * sz, sz)) i = some x := by
    intro i x hx
    rw [List.getElem?_map] at hx
    cases hr : (List.range n)[i]? with
    | none => rw [hr] at hx; cases hx
    | some j =>
      rw [hr] at hx
      have : j = i := by
        have hlt : i < n := by
          rcases Nat.lt_or_ge i n with g | g
          · exact g
          · rw [List.getElem?_eq_none (by simpa using g)] at hr; cases hr
        rw [List.getElem?_range hlt] at hr
        cases hr; rfl
      subst this
      exact hx
  obtain ⟨c', cs', g1, g2, g3, g4, g5⟩ := fillK_sound he hp h8 (repBody_rel m n z)
  refine ⟨_, _, _, _, fun W0 Hs w hs => ?_, g4⟩
  obtain ⟨b, w', r1, r2⟩ := run_newRow (P := P) hs el cs'
  have h24 : ¬ (n * sz > 2 ^ 24) := by
    have : (2 : Nat) ^ 24 = 16777216 := by decide
    have := Nat.le_of_ble_eq_true h7
    have h7 : n * sz ≤ 16777216 := this
    omega
  have hf : Instr.fill (fun i => some (i * sz, sz)) (zeros n z).toArray (ps.map fun p => (p.1, ev e p.2)).toList = some cs'.toArray := by rw [← g5]; simp
  have hrun : (execOp (ev e) o).run P w = .ok (.value (slc b 0 n n)) w' := by
    unfold execOp; rw [hop]
    simp only [Instr.buildSlice, Sem.run_bind, run_underlying' (slElB_sound h1), Result.andThen_ok, sizeOf, typeInfo, run_program, hi1, Sem.run_pure, hi2, h24, if_false]
    by_cases hz0 : n * sz = 0
    · rw [if_pos hz0]
      have hz1 : zeros n z = [] := List.eq_nil_of_length_eq_zero (by rw [zeros_length, hzl]; exact hz0)
      rw [hz1] at hf
      have e2 : (Array.range (n * sz)).map ((#[] : Array Value)[· % (#[] : Array Value).size]!) = ([] : List Value).toArray := by rw [hz0]; simp
      simp only [Sem.run_bind, Sem.run_pure, Result.andThen_ok]
      rw [e2, hf]
      simp only [Sem.run_bind, r1, Result.andThen_ok, Sem.run_pure]
    · rw [if_neg hz0]
      simp only [Sem.run_bind, zeroValue, typeInfo, run_program, Result.andThen_ok, hi1, Sem.run_pure, hi4]
      have e2 : (Array.range (n * sz)).map (zv.cells[· % zv.cells.size]!) = (zeros n z).toArray := by
        rw [← zeros_eq, hzl, hzv]
        simp only [Array.toArray_toList, List.size_toArray, hzl]
      rw [e2, hf]
      simp only [Sem.run_bind, r1, Result.andThen_ok, Sem.run_pure]
  exact ⟨_, w', b, 0, cs', [], hrun, by rw [List.append_nil]; exact r2, g1, restOk.row, fun m' id hid => ⟨b, 0, hid, rfl, Nat.le_refl _⟩⟩
theorem spOp_sound {K : SpK} (he : EnvRel m L E e) (h : spOp o.op P L E K = true) : ∃ T z c f, AlcOk P e o m T z c f ∧ K T z c f = true := by
  generalize hop : o.op = op at h
  cases op with
  | alloc t =>
    obtain ⟨⟨sz, bytes, z⟩, h1, h2⟩ := optK_sound (o := tyB P t) h
    rw [bodyK_eq] at h2
    refine ⟨_, _, _, _, fun W0 Hs w hs => ?_, h2⟩
    obtain ⟨v, w', Hs', hr, ⟨b, rfl, rfl⟩, s1⟩ := e_alloc (P := P) (e := e) hop (tyB_sound h1) W0 w hs
    refine ⟨_, w', b, 0, z, [], hr.resolve_right (fun g => by cases g.2), by rw [List.append_nil]; exact s1, bodyOf_rel m z, restOk.row, fun m' id hid => ⟨b, 0, hid, rfl⟩⟩
  | makeSlice t x y =>
    obtain ⟨el, h1, h2⟩ := optK_sound (o := slElB P t) h
    obtain ⟨⟨sz, bytes, z⟩, h3, h4⟩ := optK_sound h2
    obtain ⟨h5, h6⟩ := andK_sound h4
    obtain ⟨k, a, b, h7, h8, h9⟩ := ints_sound h6
    obtain ⟨h10, h11⟩ := andK_sound h9
    have hk : k = .i64 := kc_inj (k' := .i64) h10
    subst hk
    rcases nn_sound h11 with ⟨n, c, rfl, rfl, h12⟩ | h12
    · obtain ⟨g1, h12⟩ := andK_sound h12
      obtain ⟨g2, h12⟩ := andK_sound h12
      obtain ⟨g3, h12⟩ := andK_sound h12
      rw [natK_eq, natK_eq, bodyK_eq] at h12
      have g1 := Nat.le_of_ble_eq_true g1
      have g2 := Nat.le_of_ble_eq_true g2
      have g3 := Nat.le_of_ble_eq_true g3
      have g3 : bytes * c ≤ 281474976710656 := g3
      have hx := opI he h7
      have hy := opI he h8
      refine ⟨_, _, _, _, fun W0 Hs w hs => ?_, h12⟩
      obtain ⟨v, w', Hs', hr, ⟨bb, rfl, rfl⟩, s1⟩ := e_makeSlice (P := P) hop (slElB_sound h1) (tyB_sound h3) (Nat.eq_of_beq_eq_true h5) hx hy ⟨Int.natCast_nonneg n, Int.ofNat_le.2 g1, Int.ofNat_le.2 g2, by show ((bytes : Nat) : Int) * ((c : Nat) : Int) ≤ ((281474976710656 : Nat) : Int); rw [← Int.natCast_mul]; exact Int.ofNat_le.2 g3⟩ W0 w hs
      simp only [Int.ofNat_eq_natCast, Int.toNat_natCast] at hr s1
      exact ⟨_, w', bb, 0, zeros c z, [], hr.resolve_right (fun g => by cases g.2), by rw [List.append_nil]; exact s1, repBody_rel m c z, restOk.row, fun m' id hid => ⟨bb, 0, hid, rfl, g1⟩⟩
    · cases h12
  | convert s d x =>
    obtain ⟨h1, h2⟩ := andK_sound (c := Nat.beq (tyc P s) 7) h
    obtain ⟨h3, h4⟩ := andK_sound h2
    obtain ⟨el, h5, h6⟩ := optK_sound h4
    obtain ⟨l, n, h7, h8⟩ := asS_sound h6
    obtain ⟨h9, h10⟩ := andK_sound h8
    rw [natK_eq, natK_eq] at h10
    obtain ⟨el', g1, g2⟩ := u8El_sound h3
    have g3 := slElB_sound h5
    have hel : el' = el := by rw [g1] at g3; cases g3; rfl
    subst hel
    have h9 := Nat.le_of_ble_eq_true h9
    refine ⟨_, _, _, _, fun W0 Hs w hs => ?_, h10⟩
    obtain ⟨v, w', Hs', hr, ⟨b, cap, c1, c2, rfl, rfl⟩, s1⟩ := e_str_bytes (P := P) hop (tyc7 h1) g1 g2 (opS he h7) (by rw [bytesOf_length]; exact h9) W0 w hs
    rw [bytesOf_length] at hr s1 c1
    exact ⟨_, w', b, cap, _, _, hr.resolve_right (fun g => by cases g.2), s1, (by rfl : bodyRel m (.bs l n) _), (show restOk 1 cap _ _ from ⟨fun h => (by cases h), fun _ => ⟨by simp [bytesOf_length]; omega, c2, l, by simp [bytesOf_length]⟩⟩), fun m' id hid => ⟨b, cap, hid, by omega, rfl⟩⟩
  | buildSlice t n ps => exact spLit_sound hop he h
  | _ => cases h
/-! ### Blocks that wait -/
structure PE where
  z : Nat
  oz : Oper
  T : Nat
  zz : Nat
  c : Body
  f : Nat → AV
structure Dn where
  b : Nat
  cap : Nat
  vs : List Value
  rest : List Value
  v : Value
abbrev DM := Nat → Option Dn
def rowsP (D : DM) : List PE → List Assn
  | [] => []
  | p :: l => match D p.z with
    | none => rowsP D l
    | some r => row r.b p.T (r.vs ++ r.rest) :: rowsP D l
def ndP (D : DM) : List PE → Nat
  | [] => 0
  | p :: l => (match D p.z with
    | none => 1
    | some _ => 0) + ndP D l
def setD (D : DM) (z : Nat) (r : Dn) : DM := fun k => if k = z then some r else D k
theorem setD_self {D : DM} {z : Nat} {r : Dn} : setD D z r z = some r := if_pos rfl
theorem setD_ne {D : DM} {z k : Nat} {r : Dn} (h : k ≠ z) : setD D z r k = D k := if_neg h
theorem rowsP_same {D : DM} {z : Nat} {r : Dn} : ∀ {l : List PE}, (∀ p ∈ l, p.z ≠ z) → rowsP (setD D z r) l = rowsP D l ∧ ndP (setD D z r) l = ndP D l
  | [], _ => ⟨rfl, rfl⟩
  | p :: l, h => by
    obtain ⟨h1, h2⟩ := rowsP_same (l := l) fun q hq => h q (List.mem_cons_of_mem _ hq)
    have := setD_ne (D := D) (r := r) (h p List.mem_cons_self)
    unfold rowsP ndP
    rw [this, h1, h2]
    exact ⟨rfl, rfl⟩
theorem rowsP_split (D : DM) (l1 l2 : List PE) : rowsP D (l1 ++ l2) = rowsP D l1 ++ rowsP D l2 ∧ ndP D (l1 ++ l2) = ndP D l1 + ndP D l2 := by
  induction l1 with
  | nil => exact ⟨rfl, (Nat.zero_add _).symm⟩
  | cons p l ih =>
    simp only [List.cons_append, rowsP, ndP, ih.1, ih.2]
    cases D p.z <;> simp [Nat.add_assoc]
/-- One of them comes up. -/
theorem rowsP_set {D : DM} {q : PE} {r : Dn} {l : List PE} (hq : q ∈ l) (hn : (l.map PE.z).Nodup) (hD : D q.z = none) :
    (rowsP (setD D q.z r) l).Perm (row r.b q.T (r.vs ++ r.rest) :: rowsP D l) ∧ ndP D l = ndP (setD D q.z r) l + 1 := by
  obtain ⟨l1, l2, rfl⟩ := List.append_of_mem hq
  rw [List.map_append, List.map_cons, List.nodup_append] at hn
  obtain ⟨_, hn2, hn3⟩ := hn
  have k1 : ∀ p ∈ l1, p.z ≠ q.z := fun p hp => hn3 _ (List.mem_map_of_mem hp) _ List.mem_cons_self
  have k2 : ∀ p ∈ l2, p.z ≠ q.z := fun p hp h => (List.nodup_cons.1 hn2).1 (h ▸ List.mem_map_of_mem hp)
  obtain ⟨a1, a2⟩ := rowsP_same (D := D) (r := r) k1
  obtain ⟨b1, b2⟩ := rowsP_same (D := D) (r := r) k2
  obtain ⟨c1, c2⟩ := rowsP_split (setD D q.z r) l1 (q :: l2)
  obtain ⟨d1, d2⟩ := rowsP_split D l1 (q :: l2)
  have e1 : rowsP (setD D q.z r) (q :: l2) = row r.b q.T (r.vs ++ r.rest) :: rowsP D l2 := by simp only [rowsP, setD_self, b1]
  have e2 : ndP (setD D q.z r) (q :: l2) = ndP D l2 := by simp only [ndP, setD_self, b2, Nat.zero_add]
  have e3 : rowsP D (q :: l2) = rowsP D l2 := by simp only [rowsP, hD]
  have e4 : ndP D (q :: l2) = 1 + ndP D l2 := by simp only [ndP, hD]
  rw [c1, c2, d1, d2, a1, a2, e1, e2, e3, e4]
  exact ⟨List.perm_middle, by omega⟩
/-- One that has come up is taken out. -/
theorem rowsP_out {D : DM} {q : PE} {r : Dn} {l1 l2 : List PE} (hD : D q.z = some r) :
    (rowsP D (l1 ++ q :: l2)).Perm (row r.b q.T (r.vs ++ r.rest) :: rowsP D (l1 ++ l2)) ∧ ndP D (l1 ++ q :: l2) = ndP D (l1 ++ l2) := by
  obtain ⟨c1, c2⟩ := rowsP_split D l1 (q :: l2)
  obtain ⟨d1, d2⟩ := rowsP_split D l1 l2
  have e1 : rowsP D (q :: l2) = row r.b q.T (r.vs ++ r.rest) :: rowsP D l2 := by simp only [rowsP, hD]
  have e2 : ndP D (q :: l2) = ndP D l2 := by simp only [ndP, hD, Nat.zero_add]
  rw [c1, c2, d1, d2, e1, e2]
  exact ⟨List.perm_middle, rfl⟩
theorem ndP_pos {D : DM} {q : PE} {l : List PE} (hq : q ∈ l) (hD : D q.z = none) : 1 ≤ ndP D l := by
  obtain ⟨l1, l2, rfl⟩ := List.append_of_mem hq
  rw [(rowsP_split D l1 (q :: l2)).2]
  have e4 : ndP D (q :: l2) = 1 + ndP D l2 := by simp only [ndP, hD]
  omega
structure EntOk (P : Program) (ops : Array Oper) (L E : En) (e : Env) (m : Map) (D : DM) (p : PE) : Prop where
  op : ops[p.z]? = some p.oz
  gd : p.oz.guard = none
  sel : ∀ cs b, p.oz.op ≠ .select cs b
  bad : ∀ x, p.oz.dst = some x → look L E x = .bad
  no : D p.z = none → ∃ e0 m0, AlcOk P e0 p.oz m0 p.T p.zz p.c p.f ∧ Map.le m0 m ∧ execOp (ev e) p.oz = execOp (ev e0) p.oz
  yes : ∀ r, D p.z = some r → restOk p.zz r.cap r.vs r.rest ∧ bodyRel m p.c r.vs ∧ (∀ (m' : Map) (id : Nat), m' id = some (r.b, r.cap) → rel m' (p.f id) r.v) ∧ ∀ x, p.oz.dst = some x → e x = r.v
theorem updO_ne {d : Option Nat} {v : Value} {x : Nat} (h : d ≠ some x) : updO e d v x = e x := by
  cases d with
  | none => rfl
  | some d =>
    show upd e d v x = e x
    unfold upd
    rw [beq_ne (fun g => h (by rw [g]))]
    rfl
theorem look_dstL {d : Option Nat} {v : AV} {x : Nat} (h : d ≠ some x) : look (dstL d v L) E x = look L E x := by
  cases d with
  | none => rfl
  | some d => show look (.cons d v L) E x = _; rw [look_cons, if_neg (fun g => h (by rw [g]))]
theorem EnvRel.bad {d : Option Nat} {v : Value} (he : EnvRel m L E e) (hL : ∀ x, d = some x → look L E x = .bad) : EnvRel m L E (updO e d v) := by
  cases d with
  | none => exact he
  | some d =>
    intro t
    show rel m (look L E t) (upd e d v t)
    unfold upd
    by_cases h : t = d
    · subst h; rw [hL t rfl]; trivial
    · rw [beq_ne h]; exact he t
theorem EntOk.upd {N : Nat} {ops : Array Oper} {D : DM} {p : PE} {a : Act} {v : Value} {av : AV} {o : Oper} (h : EntOk P ops L E e m D p) (ha : EnvD N a e) (hput : EnvD N (a.put o.dst v) (updO e o.dst v)) (hap : o.apart ops p.oz = true) :
    EntOk P ops (dstL o.dst av L) E (updO e o.dst v) m D p := by
  obtain ⟨a1, a2, a3⟩ := Oper.apart_spec hap
  refine ⟨h.op, h.gd, h.sel, fun x hx => ?_, fun hn => ?_, fun r hr => ?_⟩
  · rw [look_dstL (fun g => a2 x g hx)]; exact h.bad x hx
  · obtain ⟨e0, m0, k1, k2, k3⟩ := h.no hn
    refine ⟨e0, m0, k1, k2, ?_⟩
    rw [← hput.eval, execOp_put p.oz h.sel a o.dst v a1, ha.eval]; exact k3
  · obtain ⟨k1, k2, k3, k4⟩ := h.yes r hr
    exact ⟨k1, k2, k3, fun x hx => by rw [updO_ne (fun g => a2 x g hx)]; exact k4 x hx⟩
theorem EntOk.env {N : Nat} {ops : Array Oper} {D : DM} {p : PE} {a : Act} {v : Value} {o : Oper} (h : EntOk P ops L E e m D p) (ha : EnvD N a e) (hput : EnvD N (a.put o.dst v) (updO e o.dst v)) (hap : o.apart ops p.oz = true) :
    EntOk P ops L E (updO e o.dst v) m D p := by
  obtain ⟨a1, a2, a3⟩ := Oper.apart_spec hap
  refine ⟨h.op, h.gd, h.sel, h.bad, fun hn => ?_, fun r hr => ?_⟩
  · obtain ⟨e0, m0, k1, k2, k3⟩ := h.no hn
    refine ⟨e0, m0, k1, k2, ?_⟩
    rw [← hput.eval, execOp_put p.oz h.sel a o.dst v a1, ha.eval]; exact k3
  · obtain ⟨k1, k2, k3, k4⟩ := h.yes r hr
    exact ⟨k1, k2, k3, fun x hx => by rw [updO_ne (fun g => a2 x g hx)]; exact k4 x hx⟩
theorem EntOk.mono {ops : Array Oper} {D : DM} {p : PE} {m' : Map} (h : EntOk P ops L E e m D p) (hm : Map.le m m') : EntOk P ops L E e m' D p :=
  ⟨h.op, h.gd, h.sel, h.bad, fun hn => by obtain ⟨e0, m0, k1, k2, k3⟩ := h.no hn; exact ⟨e0, m0, k1, Map.le_trans k2 hm, k3⟩, fun r hr => by obtain ⟨k1, k2, k3, k4⟩ := h.yes r hr; exact ⟨k1, k2.mono hm, k3, k4⟩⟩
/-! ### The order -/
inductive Kd4 where
  | pure | load | eff | ann | real
def un (listed : Array Bool) : List Nat → Array Bool
  | [] => listed
  | z :: l => un (listed.setIfInBounds z true) l
theorem un_keep : ∀ (A : List Nat) {listed : Array Bool} {k : Nat}, listed.getD k false = true → (un listed A).getD k false = true
  | [], _, _, h => h
  | z :: l, _, _, h => un_keep l (getD_set_true h)
theorem un_in : ∀ (A : List Nat) {listed : Array Bool} {k : Nat}, k < listed.size → k ∈ A → (un listed A).getD k false = true
  | z :: l, listed, k, hk, h => by
    rcases List.mem_cons.1 h with rfl | h
    · refine un_keep l ?_
      simp [hk]
    · exact un_in l (by simpa using hk) h
theorem un_out : ∀ (A : List Nat) {listed : Array Bool} {k : Nat} (b : Bool), k ∉ A → (un listed A).getD k b = listed.getD k b
  | [], _, _, _, _ => rfl
  | z :: l, listed, k, b, h => by
    rw [un, un_out l b (fun g => h (List.mem_cons_of_mem _ g))]
    exact getD_set_ne b (fun g => h (g ▸ List.mem_cons_self))
def ordM (ops : Array Oper) : List (Nat × Kd4) → Array Bool → List Nat → Bool
  | [], listed, A => A.isEmpty && (Region.ready .any ops listed).isEmpty
  | (i, .pure) :: l, listed, A => (Region.ready .any ops listed).contains i && (Region.free .any ops listed i && (!A.contains i && ordM ops l (listed.setIfInBounds i true) A))
  | (i, .load) :: l, listed, A => (Region.ready .any ops listed).contains i && (Region.free .any ops listed i && (!A.contains i && ordM ops l (listed.setIfInBounds i true) A))
  | (i, .eff) :: l, listed, A => (Region.ready .any ops listed).contains i && (!A.contains i && (((Region.ready .any ops (un listed A)).all fun j => Nat.beq j i) && ordM ops l (listed.setIfInBounds i true) A))
  | (i, .ann) :: l, listed, A => (Region.ready .any ops listed).contains i && (!A.contains i && ordM ops l listed (i :: A))
  | (i, .real) :: l, listed, A => A.contains i && (((Region.ready .any ops (un listed (A.erase i))).all fun j => Nat.beq j i) && ordM ops l (listed.setIfInBounds i true) (A.erase i))
def cnt4 : List (Nat × Kd4) → Nat
  | [] => 0
  | (_, .real) :: l => cnt4 l
  | (_, _) :: l => cnt4 l + 1
/-- What is listed in truth: what the order lists, and what has come up ahead of it. -/
structure Lst (listed listed' : Array Bool) (D : DM) (A : List Nat) : Prop where
  size : listed'.size = listed.size
  get : ∀ k, listed'.getD k false = (listed.getD k false || (D k).isSome)
  low : ∀ k, (D k).isSome = true → k < listed.size
  inA : ∀ k, (D k).isSome = true → k ∈ A ∨ listed.getD k false = true
theorem getD_tf (l : Array Bool) (k : Nat) : l.getD k true = false ↔ (k < l.size ∧ l.getD k false = false) := by
  by_cases h : k < l.size
  · simp [h]
  · simp [h]
theorem ready_sup {ops : Array Oper} {listed listed' : Array Bool} {D : DM} {A : List Nat} {i : Nat} (h : Lst listed listed' D A) (hr : i ∈ Region.ready .any ops listed) (hD : D i = none) : i ∈ Region.ready .any ops listed' := by
  rw [mem_ready] at *
  obtain ⟨h0, o, ho, hall⟩ := hr
  refine ⟨?_, o, ho, fun e he hb => ?_⟩
  · rw [getD_tf] at *
    rw [h.size, h.get, hD]
    exact ⟨h0.1, by rw [h0.2]; rfl⟩
  · rw [h.get, hall e he hb]; rfl
theorem ready_sub {ops : Array Oper} {listed listed' : Array Bool} {D : DM} {A B : List Nat} {j : Nat} (h : Lst listed listed' D A) (hB : ∀ k ∈ A, (D k).isSome = true → k ∈ B ∨ listed.getD k false = true) (hr : j ∈ Region.ready .any ops listed') : D j = none ∧ listed.getD j true = false ∧ (j ∈ B ∨ j ∈ Region.ready .any ops (un listed B)) := by
  rw [mem_ready] at hr
  obtain ⟨h0, o, ho, hall⟩ := hr
  rw [getD_tf, h.size, h.get] at h0
  obtain ⟨h1, h2⟩ := h0
  rw [Bool.or_eq_false_iff] at h2
  have hDj : D j = none := by
    cases hd : D j with
    | none => rfl
    | some r => rw [hd] at h2; cases h2.2
  refine ⟨hDj, (getD_tf _ _).2 ⟨h1, h2.1⟩, ?_⟩
  by_cases hj : j ∈ B
  · exact .inl hj
  · right
    rw [mem_ready]
    refine ⟨by rw [un_out B true hj, getD_tf]; exact ⟨h1, h2.1⟩, o, ho, fun e he hb => ?_⟩
    have := hall e he hb
    rw [h.get, Bool.or_eq_true] at this
    rcases this with g | g
    · exact un_keep B g
    · rcases h.inA _ g with g1 | g1
      · rcases hB _ g1 g with g2 | g2
        · exact un_in B (h.low _ g) g2
        · exact un_keep B g2
      · exact un_keep B g1
theorem Lst.both {listed listed' : Array Bool} {D : DM} {A : List Nat} {i : Nat} (h : Lst listed listed' D A) : Lst (listed.setIfInBounds i true) (listed'.setIfInBounds i true) D A := by
  refine ⟨by simpa using h.size, fun k => ?_, fun k hk => by simpa using h.low k hk, fun k hk => (h.inA k hk).imp id getD_set_true⟩
  by_cases hk : i = k
  · subst hk
    by_cases hs : i < listed.size
    · have hs' : i < listed'.size := by rw [h.size]; exact hs
      simp [hs, hs']
    · have hs' : ¬ i < listed'.size := by rw [h.size]; exact hs
      have : (D i).isSome = false := by cases hd : (D i).isSome with | false => rfl | true => exact absurd (h.low i hd) hs
      simp [hs, hs', this]
  · rw [getD_set_ne false hk, getD_set_ne false hk]; exact h.get k
theorem Lst.up {listed listed' : Array Bool} {D : DM} {A : List Nat} {z : Nat} {r : Dn} (h : Lst listed listed' D A) (hz : z < listed.size) (hA : z ∈ A) : Lst listed (listed'.setIfInBounds z true) (setD D z r) A := by
  refine ⟨by simpa using h.size, fun k => ?_, fun k hk => ?_, fun k hk => ?_⟩
  · by_cases hk : z = k
    · subst hk
      have hs' : z < listed'.size := by rw [h.size]; exact hz
      simp [hs', setD_self]
    · rw [getD_set_ne false hk, setD_ne (fun g => hk g.symm)]; exact h.get k
  · by_cases g : k = z
    · rw [g]; exact hz
    · rw [setD_ne g] at hk; exact h.low k hk
  · by_cases g : k = z
    · rw [g]; exact .inl hA
    · rw [setD_ne g] at hk; exact h.inA k hk
theorem Lst.out {listed listed' : Array Bool} {D : DM} {A : List Nat} {z : Nat} (h : Lst listed listed' D A) (hD : (D z).isSome = true) : Lst (listed.setIfInBounds z true) listed' D (A.erase z) := by
  have hz := h.low z hD
  refine ⟨by simpa using h.size, fun k => ?_, fun k hk => by simpa using h.low k hk, fun k hk => ?_⟩
  · by_cases g : z = k
    · subst g; rw [h.get z, hD]; simp
    · rw [getD_set_ne false g]; exact h.get k
  · by_cases g : k = z
    · right; subst g; simp [hz]
    · rcases h.inA k hk with g1 | g1
      · exact .inl ((List.mem_erase_of_ne g).2 g1)
      · exact .inr (getD_set_true g1)
/-! ### The evaluator -/
noncomputable def noGd (g : Option (Nat × Bool)) (x : Bool) : Bool := Option.rec (motive := fun _ => Bool → Bool) (fun x => x) (fun _ _ => false) g x
theorem noGd_sound {g : Option (Nat × Bool)} {x : Bool} (h : noGd g x = true) : g = none ∧ x = true := by cases g with
  | none => exact ⟨rfl, h⟩
  | some p => cases h
noncomputable def apAll (ops : Array Oper) (o : Oper) (al : List PE) : Bool := List.rec (motive := fun _ => Bool) true (fun p _ ih => andK (o.apart ops p.oz) ih) al
theorem apAll_sound {ops : Array Oper} : ∀ {al : List PE}, apAll ops o al = true → ∀ p ∈ al, o.apart ops p.oz = true
  | [], _, p, hp => by cases hp
  | q :: l, h, p, hp => by
    obtain ⟨h1, h2⟩ := andK_sound h
    rcases List.mem_cons.1 hp with rfl | hp
    · exact h1
    · exact apAll_sound h2 p hp
noncomputable def ckAll (pl : PL) (ops : Array Oper) (P : Program) (E : En) (H : Hp) (al : List PE) : Bool := List.rec (motive := fun _ => Bool) true (fun p _ ih => andK (checkK pl ops p.z P E H fun _ => true) ih) al
theorem ckAll_sound {pl : PL} {ops : Array Oper} : ∀ {al : List PE}, ckAll pl ops P E H al = true → ∀ p ∈ al, checkK pl ops p.z P E H (fun _ => true) = true
  | [], _, p, hp => by cases hp
  | q :: l, h, p, hp => by
    obtain ⟨h1, h2⟩ := andK_sound h
    rcases List.mem_cons.1 hp with rfl | hp
    · exact h1
    · exact ckAll_sound h2 p hp
noncomputable def outK (z : Nat) (al : List PE) : (PE → List PE → Bool) → Bool := List.rec (motive := fun _ => (PE → List PE → Bool) → Bool) (fun _ => false) (fun p l ih K => Bool.rec (motive := fun _ => Bool) (ih fun q r => K q (p :: r)) (K p l) (Nat.beq p.z z)) al
theorem outK_sound {z : Nat} : ∀ {al : List PE} {K : PE → List PE → Bool}, outK z al K = true → ∃ l1 p l2, al = l1 ++ p :: l2 ∧ p.z = z ∧ (∀ q ∈ l1, q.z ≠ z) ∧ K p (l1 ++ l2) = true
  | [], K, h => by cases h
  | p :: l, K, h => by
    have h : Bool.rec (motive := fun _ => Bool) (outK z l fun q r => K q (p :: r)) (K p l) (Nat.beq p.z z) = true := h
    by_cases g : p.z = z
    · rw [show Nat.beq p.z z = true from by rw [g]; simp] at h
      exact ⟨[], p, l, rfl, g, by simp, h⟩
    · rw [beq_ne g] at h
      obtain ⟨l1, q, l2, h1, h2, h3, h4⟩ := outK_sound h
      exact ⟨p :: l1, q, l2, by rw [h1]; rfl, h2, fun q' hq => by rcases List.mem_cons.1 hq with rfl | hq; exact g; exact h3 q' hq, h4⟩
noncomputable def isSel (op : Op) : Bool := Op.rec (motive := fun _ => Bool) (fun _ => false) (fun _ => false) (fun _ _ _ => false) (fun _ => false) (fun _ _ => false) (fun _ _ => false) (fun _ _ _ => false) (fun _ _ _ _ => false) (fun _ _ => false) (fun _ _ _ => false) (fun _ => false) (fun _ => false) (fun _ => false) (fun _ _ _ _ _ => false) (fun _ _ _ => false) (fun _ _ _ => false) (fun _ _ => false) (fun _ _ => false) (fun _ _ _ => false) (fun _ _ => false) (fun _ _ => false) (fun _ _ _ => false) (fun _ _ _ _ _ => false) (fun _ _ _ => false) (fun _ _ _ => false) (fun _ _ _ => false) (fun _ _ _ => false) (fun _ _ _ _ => false) (fun _ _ _ _ => false) (fun _ _ _ => false) (fun _ _ _ _ => false) (fun _ _ => false) (fun _ _ => false) (fun _ => false) (fun _ _ _ _ => false) (fun _ _ => false) (fun _ => false) (fun _ => false) (fun _ => false) (fun _ => false) (fun _ _ => false) (fun _ _ _ => false) (fun _ _ => true) op
theorem isSel_no {op : Op} (h : isSel op = false) : ∀ cs b, op ≠ .select cs b := by
  cases op <;> first | (cases h; done) | (intro cs b g; cases g; done)
noncomputable def evM (l : List (Nat × Kd4)) : Array Oper → Program → CallF → PL → List PE → En → En → Hp → RK → Bool :=
  List.rec (motive := fun _ => Array Oper → Program → CallF → PL → List PE → En → En → Hp → RK → Bool) (fun ops P call pl al L E H K => K L H)
    (fun p _ ih ops P call pl al L E H K => optK (ops[p.1]?) fun o => Kd4.rec (motive := fun _ => Bool)
      (andK (apAll ops o al) (gdK o.guard ops L E (pureOp o.op P L E fun v => dstK o.dst v L fun L => ih ops P call pl al L E H K) (dstK o.dst (.tup .nil) L fun L => ih ops P call pl al L E H K)))
      (andK (apAll ops o al) (gdK o.guard ops L E (loadOp o.op P L E H fun v => dstK o.dst v L fun L' => ih ops P call (.cons p.1 o.op L v pl) al L' E H K) (dstK o.dst (.tup .nil) L fun L => ih ops P call pl al L E H K)))
      (andK (apAll ops o al) (andK (ckAll pl ops P E H al) (gdK o.guard ops L E (evOp o.op P ⟨call, noY⟩ L E H fun v H => checkK pl ops p.1 P E H fun pl => dstK o.dst v L fun L => ih ops P call pl al L E H K) (dstK o.dst (.tup .nil) L fun L => ih ops P call pl al L E H K))))
      (andK (apAll ops o al) (noGd o.guard (Bool.rec (motive := fun _ => Bool) (spOp o.op P L E fun T z c f => dstK o.dst .bad L fun L => ih ops P call pl (⟨p.1, o, T, z, c, f⟩ :: al) L E H K) false (isSel o.op))))
      (andK (ckAll pl ops P E H al) (outK p.1 al fun q al => newK H q.T q.zz q.c fun id H => forceK (q.f id) fun v => dstK q.oz.dst v L fun L => ih ops P call pl al L E H K)) p.2) l
theorem wpOp_noPanic {ops : Array Oper} {Qn : Act → World → Prop} {j : Nat} {K : Act → World → Prop} {a : Act} {w : World} : wpOp P ops (fun _ _ _ => False) j K a w → wpOp P ops (fun x a w => x = .normal ∧ Qn a w) j K a w := by
  unfold wpOp
  split
  · exact id
  · split
    · intro hh
      rcases hh with hh | ⟨_, _, _, hh⟩
      · left
        unfold Oper.wp at *
        generalize (execOp a.eval _).run P w = r at *
        cases r with
        | ok n w' =>
          cases n <;> simp only [Oper.upon] at hh ⊢ <;> first
            | exact hh
            | (refine Calls.mono hh fun e w'' he => ?_
               cases e with
               | returned u => exact he
               | panicked c => exact he.elim
               | outgrown => obtain ⟨_, _, he⟩ := he; exact he.elim)
        | halt x w' => cases x <;> simp only [Oper.upon] at hh ⊢
      · exact hh.elim
    · exact id
theorem wpAnyS_monoQ {ops : Array Oper} {md : Region.Mode} {Q1 Q2 : Act → World → Prop} (hq : ∀ a w, Q1 a w → Q2 a w) : ∀ (n : Nat) {S : Nat → World → Prop} {listed : Array Bool} {a : Act} {w : World}, wpAnyS P md ops (fun x a w => x = .normal ∧ Q1 a w) n S listed a w → wpAnyS P md ops (fun x a w => x = .normal ∧ Q2 a w) n S listed a w := by
  have key : ∀ {K : Act → World → Prop} {j : Nat} {a : Act} {w : World}, wpOp P ops (fun x a w => x = .normal ∧ Q1 a w) j K a w → wpOp P ops (fun x a w => x = .normal ∧ Q2 a w) j K a w := by
    intro K j a w
    unfold wpOp
    split
    · exact id
    · split
      · intro hh
        rcases hh with hh | ⟨h3, b, w3, h4⟩
        · left
          unfold Oper.wp at *
          generalize (execOp a.eval _).run P w = r at *
          cases r with
          | ok n w' =>
            cases n <;> simp only [Oper.upon] at hh ⊢ <;> first
              | exact hh
              | (refine Calls.mono hh fun e w'' he => ?_
                 cases e with
                 | returned u => exact he
                 | panicked c => exact ⟨he.1, hq _ _ he.2⟩
                 | outgrown => obtain ⟨b, w3, he⟩ := he; exact ⟨b, w3, he.1, hq _ _ he.2⟩)
          | halt x w' => cases x <;> simp only [Oper.upon] at hh ⊢; exact ⟨hh.1, hq _ _ hh.2⟩
        · exact .inr ⟨h3, b, w3, h4.1, hq _ _ h4.2⟩
      · exact id
  intro n
  induction n with
  | zero => intro S listed a w h; exact ⟨h.1, rfl, hq _ _ h.2.2⟩
  | succ n ih => intro S listed a w h; exact ⟨fun h0 => ⟨rfl, hq _ _ (h.1 h0).2⟩, fun j hj => key (wpOp_mono (fun a w h3 => ⟨h3.1, ih h3.2⟩) (h.2 j hj))⟩
/-- Where the evaluator stands. -/
structure St [Dfs] (P : Program) (N : Nat) (ops : Array Oper) (W0 : World) (Fr : Assn) (S : Nat → World → Prop) (listed listed' : Array Bool) (D : DM) (al : List PE) (pl : PL) (L E : En) (H : Hp) (m : Map) (e : Env) (a : Act) (w : World) : Prop where
  lst : Lst listed listed' D (al.map PE.z)
  nod : (al.map PE.z).Nodup
  par : al.Pairwise fun p q => p.oz.apart ops q.oz = true
  ent : ∀ p ∈ al, EntOk P ops L E e m D p
  rdy : ∀ p ∈ al, p.z ∈ Region.ready .any ops listed
  pd : PdRel P m E pl S
  all : ∀ i, S i w
  env : EnvD N a e
  rel : EnvRel m L E e
  inv : Inv1 m H
  mem : Mem W0 m H (sep (Fr :: rowsP D al)) w
theorem St.up {N : Nat} {ops : Array Oper} {S : Nat → World → Prop} {listed listed' : Array Bool} {D : DM} {al : List PE} {pl : PL} {a : Act} (st : St P N ops W0 Fr S listed listed' D al pl L E H m e a w) (hd : dstAll N ops = true) (hck : ∀ p ∈ al, checkK pl ops p.z P E H (fun _ => true) = true) {q : PE} (hq : q ∈ al) (hD : D q.z = none) :
    wpOp P ops (fun _ _ _ => False) q.z (fun a' w' => ∃ r, (∀ k, dropS .any ops S q.z k w') ∧ St P N ops W0 Fr (dropS .any ops S q.z) listed (listed'.setIfInBounds q.z true) (setD D q.z r) al pl L E H m (updO e q.oz.dst r.v) a' w') a w := by
  have eq := st.ent q hq
  obtain ⟨e0, m0, hal, hm0, hex⟩ := eq.no hD
  obtain ⟨v, w', b, cap, vs, rest, k1, k2, k3, k4, k5⟩ := hal W0 _ w st.mem
  unfold wpOp
  rw [eq.op]
  have hw : Region.wanted q.oz (yielded ops a.tmps) = true := by unfold Region.wanted; rw [eq.gd]
  simp only [hw, if_true]
  left
  unfold Oper.wp
  rw [st.env.eval, hex, k1]
  have hput := st.env.put (dstAll_sound hd eq.op) v
  have hz : q.z < listed.size := by
    have := (mem_ready.1 (st.rdy q hq)).1
    exact ((getD_tf _ _).1 this).1
  obtain ⟨r1, r2⟩ := rowsP_set (r := ⟨b, cap, vs, rest, v⟩) hq st.nod hD
  have s2 : Mem W0 m H (sep (Fr :: rowsP (setD D q.z ⟨b, cap, vs, rest, v⟩) al)) w' := by
    refine k2.mono ?_
    have e1 : Ent (sep (row b q.T (vs ++ rest) :: (hpA m H.t ++ [sep (Fr :: rowsP D al)]))) (sep (hpA m H.t ++ row b q.T (vs ++ rest) :: [sep (Fr :: rowsP D al)])) := Ent.perm List.perm_middle.symm
    refine e1.trans ?_
    have e2 : Ent (sep (hpA m H.t ++ row b q.T (vs ++ rest) :: [sep (Fr :: rowsP D al)])) (sep ((hpA m H.t ++ [row b q.T (vs ++ rest)]) ++ (Fr :: rowsP D al))) := by
      have e3 : hpA m H.t ++ row b q.T (vs ++ rest) :: [sep (Fr :: rowsP D al)] = (hpA m H.t ++ [row b q.T (vs ++ rest)]) ++ [sep (Fr :: rowsP D al)] := by simp
      rw [e3]
      exact Ent.unframe
    refine e2.trans ?_
    have e4 : Ent (sep ((hpA m H.t ++ [row b q.T (vs ++ rest)]) ++ (Fr :: rowsP D al))) (sep (hpA m H.t ++ (Fr :: rowsP (setD D q.z ⟨b, cap, vs, rest, v⟩) al))) := by
      refine Ent.perm ?_
      rw [List.append_assoc]
      refine List.Perm.append_left _ ?_
      exact ((List.Perm.swap Fr (row b q.T (vs ++ rest)) (rowsP D al))).trans (List.Perm.cons Fr r1.symm)
    refine e4.trans ?_
    exact Ent.frame
  obtain ⟨_, _, _, k8⟩ := checkK_sound (Map.le_refl m) st.inv s2 st.pd (hck q hq)
  refine ⟨⟨b, cap, vs, rest, v⟩, k8, ?_⟩
  refine ⟨st.lst.up hz (List.mem_map_of_mem hq), st.nod, st.par, fun p hp => ?_, st.rdy, st.pd.mono (Map.le_refl m) fun j w' g => .inl g, k8, hput, EnvRel.bad st.rel eq.bad, st.inv, s2⟩
  by_cases hpq : p.z = q.z
  · have : p = q := by
      have hn := st.nod
      obtain ⟨l1, l2, rfl⟩ := List.append_of_mem hq
      rw [List.map_append, List.map_cons, List.nodup_append] at hn
      obtain ⟨_, hn2, hn3⟩ := hn
      rcases List.mem_append.1 hp with g | g
      · exact absurd hpq (hn3 _ (List.mem_map_of_mem g) _ List.mem_cons_self)
      · rcases List.mem_cons.1 g with g | g
        · exact g
        · exact absurd (hpq ▸ List.mem_map_of_mem g) (List.nodup_cons.1 hn2).1
    subst this
    refine ⟨eq.op, eq.gd, eq.sel, eq.bad, fun hn => absurd (setD_self.symm.trans hn) (by nofun), fun r hr => ?_⟩
    rw [setD_self] at hr
    cases hr
    exact ⟨k4, k3.mono hm0, k5, fun x hx => by rw [hx]; show Sl.upd e x v x = v; unfold Sl.upd; simp⟩
  · have hap : q.oz.apart ops p.oz = true := by
      have hpw := st.par
      have hsym : ∀ {x y : Oper}, x.apart ops y = true → y.apart ops x = true := by
        intro x y h
        obtain ⟨a1, a2, a3⟩ := Oper.apart_spec h
        unfold Oper.apart
        cases hx : x.dst with
        | none => cases hy : y.dst with
          | none => rfl
          | some d => have := a3 d hy; simp [this]
        | some d => cases hy : y.dst with
          | none => have := a1 d hx; simp [this]
          | some d' =>
            have b1 := a1 d hx; have b2 := a2 d hx; have b3 := a3 d' hy
            simp only [hy, ne_eq, Option.some.injEq] at b2
            simp [b1, b3]
            exact fun g => b2 g.symm
      obtain ⟨i, hi, rfl⟩ := List.mem_iff_getElem.1 hp
      obtain ⟨j, hj, rfl⟩ := List.mem_iff_getElem.1 hq
      rw [List.pairwise_iff_getElem] at hpw
      rcases Nat.lt_trichotomy i j with g | g | g
      · exact hsym (hpw i j hi hj g)
      · subst g; exact absurd rfl hpq
      · exact hpw j i hj hi g
    have := (st.ent p hp).env (o := q.oz) st.env hput hap
    exact ⟨this.op, this.gd, this.sel, this.bad, fun hn => this.no (by rwa [setD_ne hpq] at hn), fun r hr => this.yes r (by rwa [setD_ne hpq] at hr)⟩
theorem contains_not {A : List Nat} {i : Nat} (h : (!A.contains i) = true) : i ∉ A := by simpa using h
structure SndM [Dfs] (P : Program) (N : Nat) (ops : Array Oper) (W0 : World) (Fr : Assn) (call : CallF) (E : En) (K : RK) (l : List (Nat × Kd4)) (k : Nat) : Prop where
  go : ∀ {S : Nat → World → Prop} {listed listed' : Array Bool} {D : DM} {al : List PE} {pl : PL} {L : En} {H : Hp} {m : Map} {e : Env} {a : Act} {w : World},
    ndP D al = k → St P N ops W0 Fr S listed listed' D al pl L E H m e a w → ordM ops l listed (al.map PE.z) = true → evM l ops P call pl al L E H K = true → wpAnyS P .any ops (fun x a w => x = .normal ∧ RegQ N W0 Fr m E K a w) (cnt4 l + k) S listed' a w
section
variable {N : Nat} {ops : Array Oper} {K : RK} {i k : Nat} {l : List (Nat × Kd4)}
theorem St.free {S : Nat → World → Prop} {listed listed' : Array Bool} {D : DM} {al : List PE} {pl : PL} {a : Act} (st : St P N ops W0 Fr S listed listed' D al pl L E H m e a w) (hr : i ∈ Region.ready .any ops listed) (hA : i ∉ al.map PE.z) : D i = none ∧ i ∈ Region.ready .any ops listed' ∧ (∀ p ∈ al, p.z ∈ Region.ready .any ops (listed.setIfInBounds i true)) ∧
    (∀ {o : Oper}, ops[i]? = some o → Region.free .any ops listed i = true → ∀ j oj, ops[j]? = some oj → j ≠ i → listed'.getD j true = false → (∀ e ∈ oj.after, Region.binds .any e = true → e.on ≠ i) → o.apart ops oj = true) := by
  have hDi : D i = none := by
    cases hdi : D i with
    | none => rfl
    | some r =>
      rcases st.lst.inA i (by rw [hdi]; rfl) with g | g
      · exact absurd g hA
      · have := ((getD_tf _ _).1 (mem_ready.1 hr).1).2
        rw [this] at g; cases g
  refine ⟨hDi, ready_sup st.lst hr hDi, fun p hp => ready_mono (st.rdy p hp) (fun g => hA (g ▸ List.mem_map_of_mem hp)), fun hoi hf j oj hj hne hun hno => ?_⟩
  refine Region.free_spec hoi hf j oj hj hne ?_ hno
  rw [getD_tf, st.lst.size, st.lst.get, Bool.or_eq_false_iff] at hun
  rw [getD_tf]; exact ⟨hun.1, hun.2.1⟩
/-- One that waits comes up: then it goes on as it stood. -/
theorem St.upS {S : Nat → World → Prop} {listed listed' : Array Bool} {D : DM} {al : List PE} {pl : PL} {a : Act} (st : St P N ops W0 Fr S listed listed' D al pl L E H m e a w) (hd : dstAll N ops = true) (hck : ckAll pl ops P E H al = true) (hk : ndP D al = k) (ihk : ∀ k', k = k' + 1 → SndM P N ops W0 Fr call E K l k')
    (ho : ordM ops l listed (al.map PE.z) = true) (h : evM l ops P call pl al L E H K = true) {q : PE} (hq : q ∈ al) (hD : D q.z = none) : ∃ k', k = k' + 1 ∧
    wpOp P ops (fun x a w => x = .normal ∧ RegQ N W0 Fr m E K a w) q.z (fun a' w' => (∀ i, dropS .any ops S q.z i w') ∧ wpAnyS P .any ops (fun x a w => x = .normal ∧ RegQ N W0 Fr m E K a w) (cnt4 l + k') (dropS .any ops S q.z) (listed'.setIfInBounds q.z true) a' w') a w := by
  have h1 := ndP_pos hq hD
  refine ⟨k - 1, by omega, wpOp_noPanic (wpOp_mono ?_ (st.up hd (ckAll_sound hck) hq hD))⟩
  rintro a' w' ⟨r, g1, g2⟩
  refine ⟨g1, (ihk (k - 1) (by omega)).go ?_ g2 ho h⟩
  have := (rowsP_set (r := r) hq st.nod hD).2
  omega
theorem sndM_pure (hs : Region.noSelect ops = true) (hd : dstAll N ops = true) (ih : ∀ k, SndM P N ops W0 Fr call E K l k) : SndM P N ops W0 Fr call E K ((i, .pure) :: l) k := by
  constructor
  intro S listed listed' D al pl L H m e a w hk st ho h
  obtain ⟨o, hoi, h⟩ := optK_sound (o := ops[i]?) h
  have hput : ∀ v, EnvD N (a.put o.dst v) (updO e o.dst v) := fun v => st.env.put (dstAll_sound hd hoi) v
  simp only [ordM, Bool.and_eq_true] at ho
  obtain ⟨hr, hf, hA, ho⟩ := ho
  have hr : i ∈ Region.ready .any ops listed := by simpa using hr
  have hA := contains_not hA
  obtain ⟨hDi, hr', hrdy, hfree⟩ := st.free hr hA
  have hfree := hfree hoi hf
  obtain ⟨hap, h⟩ := andK_sound h
  have hap := apAll_sound hap
  show wpAnyS P .any ops _ (cnt4 l + 1 + k) S listed' a w
  rw [Nat.add_right_comm]
  rcases gdK_sound st.env st.rel h with ⟨hw, h1⟩ | ⟨hw, h1⟩
  · obtain ⟨av, v, h2, h3, h4⟩ := pureOp_sound st.rel h1
    replace h4 := dstK_sound h4
    refine wpAnyS_first (Si := fun _ => True) hoi (Region.noSelect_spec hs) (fun c a w hh => by cases hh.1) _ S listed' a w hfree hr' (.inl ⟨hw, fun w' _ => by rw [st.env.eval]; exact h2 w'⟩) trivial st.all ?_
    refine wpAnyS_mono _ (fun k w g => ⟨g, fun _ => trivial⟩) _ _ _ ((ih k).go hk ⟨st.lst.both, st.nod, st.par, fun p hp => (st.ent p hp).upd st.env (hput v) (hap p hp), hrdy, st.pd, st.all, hput v, dstL_rel st.rel h3, st.inv, st.mem⟩ ho h4)
  · replace h1 := dstK_sound h1
    refine wpAnyS_first (Si := fun _ => True) hoi (Region.noSelect_spec hs) (fun c a w hh => by cases hh.1) _ S listed' a w hfree hr' (.inr ⟨hw, rfl⟩) trivial st.all ?_
    refine wpAnyS_mono _ (fun k w g => ⟨g, fun _ => trivial⟩) _ _ _ ((ih k).go hk ⟨st.lst.both, st.nod, st.par, fun p hp => (st.ent p hp).upd st.env (hput undef) (hap p hp), hrdy, st.pd, st.all, hput undef, dstL_rel st.rel (show rel m (.tup .nil) undef from ⟨[], rfl, rfl⟩), st.inv, st.mem⟩ ho h1)
theorem sndM_load (hs : Region.noSelect ops = true) (hd : dstAll N ops = true) (ih : ∀ k, SndM P N ops W0 Fr call E K l k) : SndM P N ops W0 Fr call E K ((i, .load) :: l) k := by
  constructor
  intro S listed listed' D al pl L H m e a w hk st ho h
  obtain ⟨o, hoi, h⟩ := optK_sound (o := ops[i]?) h
  have hput : ∀ v, EnvD N (a.put o.dst v) (updO e o.dst v) := fun v => st.env.put (dstAll_sound hd hoi) v
  simp only [ordM, Bool.and_eq_true] at ho
  obtain ⟨hr, hf, hA, ho⟩ := ho
  have hr : i ∈ Region.ready .any ops listed := by simpa using hr
  have hA := contains_not hA
  obtain ⟨hDi, hr', hrdy, hfree⟩ := st.free hr hA
  have hfree := hfree hoi hf
  obtain ⟨hap, h⟩ := andK_sound h
  have hap := apAll_sound hap
  show wpAnyS P .any ops _ (cnt4 l + 1 + k) S listed' a w
  rw [Nat.add_right_comm]
  rcases gdK_sound st.env st.rel h with ⟨hw, h1⟩ | ⟨hw, h1⟩
  · obtain ⟨av, v, h2, h3, h4⟩ := loadOp_sound st.inv st.rel st.mem h1
    replace h4 := dstK_sound h4
    refine wpAnyS_first (Si := fun w' => (execOp (ev e) o).run P w' = .ok (.value v) w') hoi (Region.noSelect_spec hs) (fun c a w hh => by cases hh.1) _ S listed' a w hfree hr' (.inl ⟨hw, fun w' hw' => by rw [st.env.eval]; exact hw'⟩) h2 st.all ?_
    have hpd : PdRel P m E (.cons i o.op L av pl) (fun k w' => S k w' ∧ (k = i → (execOp (ev e) o).run P w' = .ok (.value v) w')) := ⟨S, e, v, o, rfl, st.rel, h3, st.pd, fun j w' k1 k2 => ⟨k1, k2⟩⟩
    exact (ih k).go hk ⟨st.lst.both, st.nod, st.par, fun p hp => (st.ent p hp).upd st.env (hput v) (hap p hp), hrdy, hpd, fun k => ⟨st.all k, fun _ => h2⟩, hput v, dstL_rel st.rel h3, st.inv, st.mem⟩ ho h4
  · replace h1 := dstK_sound h1
    refine wpAnyS_first (Si := fun _ => True) hoi (Region.noSelect_spec hs) (fun c a w hh => by cases hh.1) _ S listed' a w hfree hr' (.inr ⟨hw, rfl⟩) trivial st.all ?_
    refine wpAnyS_mono _ (fun k w g => ⟨g, fun _ => trivial⟩) _ _ _ ((ih k).go hk ⟨st.lst.both, st.nod, st.par, fun p hp => (st.ent p hp).upd st.env (hput undef) (hap p hp), hrdy, st.pd, st.all, hput undef, dstL_rel st.rel (show rel m (.tup .nil) undef from ⟨[], rfl, rfl⟩), st.inv, st.mem⟩ ho h1)
theorem sndM_eff (hcall : CallOk False P ⟨call, noY⟩) (hd : dstAll N ops = true) (ih : ∀ k, SndM P N ops W0 Fr call E K l k) (ihk : ∀ k', k = k' + 1 → SndM P N ops W0 Fr call E K ((i, .eff) :: l) k') : SndM P N ops W0 Fr call E K ((i, .eff) :: l) k := by
  constructor
  intro S listed listed' D al pl L H m e a w hk st ho h
  have ho0 := ho
  have h0 := h
  obtain ⟨o, hoi, h⟩ := optK_sound (o := ops[i]?) h
  have hput : ∀ v, EnvD N (a.put o.dst v) (updO e o.dst v) := fun v => st.env.put (dstAll_sound hd hoi) v
  simp only [ordM, Bool.and_eq_true] at ho
  obtain ⟨hr, hA, hu, ho⟩ := ho
  have hr : i ∈ Region.ready .any ops listed := by simpa using hr
  have hA := contains_not hA
  obtain ⟨hDi, hr', hrdy, _⟩ := st.free hr hA
  obtain ⟨hap, h⟩ := andK_sound h
  have hap := apAll_sound hap
  obtain ⟨hck, h⟩ := andK_sound h
  show wpAnyS P .any ops _ (cnt4 l + 1 + k) S listed' a w
  rw [Nat.add_right_comm]
  refine ⟨fun g => (by rw [g] at hr'; cases hr'), fun j hj => ?_⟩
  obtain ⟨hDj, _, g⟩ := ready_sub (B := al.map PE.z) st.lst (fun k hk _ => .inl hk) hj
  rcases g with g | g
  · obtain ⟨q, hq, rfl⟩ := List.mem_map.1 g
    obtain ⟨k', hk', hup⟩ := st.upS hd hck hk ihk ho0 h0 hq hDj
    have e1 : cnt4 l + k = cnt4 ((i, .eff) :: l) + k' := by show _ = cnt4 l + 1 + k'; omega
    rw [e1]; exact hup
  · have := Nat.eq_of_beq_eq_true (List.all_eq_true.1 hu j g)
    subst this
    refine wpOp_noPanic ?_
    unfold wpOp
    rw [hoi]
    rcases gdK_sound st.env st.rel h with ⟨hw, h1⟩ | ⟨hw, h1⟩
    · simp only [hw, if_true]
      left
      refine upon_of (ops := ops) st.env (evOp_sound hcall st.inv st.rel st.mem h1) ?_
      rintro v w' ⟨m', H', av, k1, k2, k3, k4, k5⟩
      obtain ⟨pl', k6, k7, k8⟩ := checkK_sound k1 k2 k4 st.pd k5
      replace k6 := dstK_sound k6
      refine ⟨k8, wpAnyS_monoQ (fun a w h => h.mono k1) _ ((ih k).go (m := m') hk ⟨st.lst.both, st.nod, st.par, fun p hp => ((st.ent p hp).upd st.env (hput v) (hap p hp)).mono k1, hrdy, k7, k8, hput v, dstL_rel (st.rel.mono k1) k3, k2, k4⟩ ho k6)⟩
    · simp only [hw, Bool.false_eq_true, if_false]
      replace h1 := dstK_sound h1
      exact ⟨fun k => .inl (st.all k), (ih k).go hk ⟨st.lst.both, st.nod, st.par, fun p hp => (st.ent p hp).upd st.env (hput undef) (hap p hp), hrdy, st.pd.mono (Map.le_refl m) fun j w' g => .inl g, fun k => .inl (st.all k), hput undef, dstL_rel st.rel (show rel m (.tup .nil) undef from ⟨[], rfl, rfl⟩), st.inv, st.mem⟩ ho h1⟩
theorem sndM_ann (hd : dstAll N ops = true) (ih : ∀ k, SndM P N ops W0 Fr call E K l k) : SndM P N ops W0 Fr call E K ((i, .ann) :: l) k := by
  constructor
  intro S listed listed' D al pl L H m e a w hk st ho h
  obtain ⟨o, hoi, h⟩ := optK_sound (o := ops[i]?) h
  simp only [ordM, Bool.and_eq_true] at ho
  obtain ⟨hr, hA, ho⟩ := ho
  have hr : i ∈ Region.ready .any ops listed := by simpa using hr
  have hA := contains_not hA
  obtain ⟨hDi, hr', hrdy, _⟩ := st.free hr hA
  obtain ⟨hap, h⟩ := andK_sound h
  have hap := apAll_sound hap
  obtain ⟨hg, h⟩ := noGd_sound h
  cases hsel : isSel o.op with
  | true => rw [hsel] at h; cases h
  | false =>
    rw [hsel] at h
    obtain ⟨T, z, c, f, hal, h2⟩ := spOp_sound st.rel h
    replace h2 := dstK_sound h2
    show wpAnyS P .any ops _ (cnt4 l + 1 + k) S listed' a w
    rw [Nat.add_assoc, Nat.add_comm 1 k]
    have hL : ∀ x, o.dst = some x → look (dstL o.dst .bad L) E x = .bad := fun x hx => by
      rw [hx]; show look (.cons x .bad L) E x = .bad; rw [look_cons, if_pos rfl]
    refine (ih (k + 1)).go (al := ⟨i, o, T, z, c, f⟩ :: al) ?_ ⟨⟨st.lst.size, st.lst.get, st.lst.low, fun k hk => (st.lst.inA k hk).imp (fun g => List.mem_cons_of_mem _ g) id⟩, List.nodup_cons.2 ⟨hA, st.nod⟩, List.pairwise_cons.2 ⟨hap, st.par⟩, fun p hp => ?_, fun p hp => ?_, st.pd, st.all, st.env, ?_, st.inv, ?_⟩ ho h2
    · show (match D i with | none => 1 | some _ => 0) + ndP D al = k + 1
      rw [hDi, hk]; exact Nat.add_comm _ _
    · rcases List.mem_cons.1 hp with rfl | hp
      · exact ⟨hoi, hg, isSel_no hsel, hL, fun _ => ⟨e, m, hal, Map.le_refl m, rfl⟩, fun r hr => absurd (hDi.symm.trans hr) (by nofun)⟩
      · have := st.ent p hp
        obtain ⟨a1, a2, a3⟩ := Oper.apart_spec (hap p hp)
        exact ⟨this.op, this.gd, this.sel, fun x hx => by rw [look_dstL (fun g => a2 x g hx)]; exact this.bad x hx, this.no, this.yes⟩
    · rcases List.mem_cons.1 hp with rfl | hp
      · exact hr
      · exact st.rdy p hp
    · have he := st.rel
      intro t
      show Evl.rel m (look (dstL o.dst .bad L) E t) (e t)
      cases hdd : o.dst with
      | none => exact he t
      | some d =>
        show Evl.rel m (look (.cons d .bad L) E t) (e t)
        rw [look_cons]
        split
        · trivial
        · exact he t
    · show Mem W0 m H (sep (Fr :: rowsP D (⟨i, o, T, z, c, f⟩ :: al))) w
      have : rowsP D (⟨i, o, T, z, c, f⟩ :: al) = rowsP D al := by simp only [rowsP, hDi]
      rw [this]; exact st.mem
theorem sndM_real (hd : dstAll N ops = true) (ih : ∀ k, SndM P N ops W0 Fr call E K l k) (ihk : ∀ k', k = k' + 1 → SndM P N ops W0 Fr call E K ((i, .real) :: l) k') : SndM P N ops W0 Fr call E K ((i, .real) :: l) k := by
  constructor
  intro S listed listed' D al pl L H m e a w hk st ho h
  have ho0 := ho
  have h0 := h
  obtain ⟨o, hoi, h⟩ := optK_sound (o := ops[i]?) h
  simp only [ordM, Bool.and_eq_true] at ho
  obtain ⟨hA, hu, ho⟩ := ho
  have hA : i ∈ al.map PE.z := by simpa using hA
  obtain ⟨hck, h⟩ := andK_sound h
  show wpAnyS P .any ops _ (cnt4 l + k) S listed' a w
  cases hDi : D i with
  | none =>
    obtain ⟨q, hq, hqi⟩ := List.mem_map.1 hA
    have hk1 := ndP_pos (D := D) hq (by rw [hqi]; exact hDi)
    have hr' := ready_sup st.lst (st.rdy q hq) (by rw [hqi]; exact hDi)
    have e1 : cnt4 l + k = (cnt4 l + (k - 1)) + 1 := by omega
    rw [e1]
    refine ⟨fun g => (by rw [g] at hr'; cases hr'), fun j hj => ?_⟩
    obtain ⟨hDj, _, g⟩ := ready_sub (B := (al.map PE.z).erase i) st.lst (fun k hk hs => .inl ((List.mem_erase_of_ne (fun g => by rw [g, hDi] at hs; cases hs)).2 hk)) hj
    have hjA : j ∈ al.map PE.z := by
      rcases g with g | g
      · exact List.mem_of_mem_erase g
      · have := Nat.eq_of_beq_eq_true (List.all_eq_true.1 hu j g)
        rw [this]; exact hA
    obtain ⟨q', hq', rfl⟩ := List.mem_map.1 hjA
    obtain ⟨k', hk', hup⟩ := st.upS hd hck hk ihk ho0 h0 hq' hDj
    have e2 : cnt4 l + (k - 1) = cnt4 ((i, .real) :: l) + k' := by show _ = cnt4 l + k'; omega
    rw [e2]; exact hup
  | some r =>
    obtain ⟨l1, q, l2, rfl, hqi, hl1, h9⟩ := outK_sound h
    rw [newK_eq, forceK_eq] at h9
    replace h9 := dstK_sound h9
    subst hqi
    have eq := st.ent q (List.mem_append_right _ List.mem_cons_self)
    obtain ⟨y1, y2, y3, y4⟩ := eq.yes r hDi
    obtain ⟨r1, r2⟩ := rowsP_out (l1 := l1) (l2 := l2) hDi
    have herase : ((l1 ++ q :: l2).map PE.z).erase q.z = (l1 ++ l2).map PE.z := by
      rw [List.map_append, List.map_cons, List.erase_append_right _ (fun g => by obtain ⟨p, hp, hpz⟩ := List.mem_map.1 g; exact hl1 p hp hpz), List.erase_cons_head, List.map_append]
    rw [herase] at ho
    have hnq : ∀ p ∈ l1 ++ l2, p ∈ l1 ++ q :: l2 ∧ p.z ≠ q.z := fun p hp => by
      have hn := st.nod
      rw [List.map_append, List.map_cons, List.nodup_append] at hn
      obtain ⟨_, hn2, hn3⟩ := hn
      rcases List.mem_append.1 hp with g | g
      · exact ⟨List.mem_append_left _ g, hl1 p g⟩
      · exact ⟨List.mem_append_right _ (List.mem_cons_of_mem _ g), fun g2 => (List.nodup_cons.1 hn2).1 (g2 ▸ List.mem_map_of_mem g)⟩
    have hsub : (l1 ++ l2).Sublist (l1 ++ q :: l2) := List.Sublist.append_left (List.sublist_cons_self _ _) _
    have hdd : ∀ p ∈ l1 ++ l2, ∀ x, p.oz.dst = some x → q.oz.dst ≠ some x := fun p hp x hx hq => by
      have hpw := st.par
      rw [List.pairwise_append] at hpw
      obtain ⟨_, hp2, hp3⟩ := hpw
      rcases List.mem_append.1 hp with g | g
      · exact (Oper.apart_spec (hp3 p g q List.mem_cons_self)).2.1 x hx hq
      · exact (Oper.apart_spec ((List.pairwise_cons.1 hp2).1 p g)).2.1 x hq hx
    have s1 : Sat W0 (sep (row r.b q.T (r.vs ++ r.rest) :: (hpA m H.t ++ [sep (Fr :: rowsP D (l1 ++ l2))]))) w := by
      refine st.mem.mono ?_
      have e1 : Ent (sep (hpA m H.t ++ [sep (Fr :: rowsP D (l1 ++ q :: l2))])) (sep (hpA m H.t ++ (Fr :: rowsP D (l1 ++ q :: l2)))) := Ent.unframe
      have e2 : (hpA m H.t ++ (Fr :: rowsP D (l1 ++ q :: l2))).Perm ((row r.b q.T (r.vs ++ r.rest) :: hpA m H.t) ++ (Fr :: rowsP D (l1 ++ l2))) := by
        have a1 : (Fr :: rowsP D (l1 ++ q :: l2)).Perm (row r.b q.T (r.vs ++ r.rest) :: Fr :: rowsP D (l1 ++ l2)) := (List.Perm.cons Fr r1).trans (List.Perm.swap _ _ _)
        exact (List.Perm.append_left _ a1).trans List.perm_middle
      refine e1.trans ((Ent.perm e2).trans ?_)
      have e3 : Ent (sep ((row r.b q.T (r.vs ++ r.rest) :: hpA m H.t) ++ (Fr :: rowsP D (l1 ++ l2)))) (sep ((row r.b q.T (r.vs ++ r.rest) :: hpA m H.t) ++ [sep (Fr :: rowsP D (l1 ++ l2))])) := Ent.frame
      exact e3
    obtain ⟨k1, k2, k3, k4⟩ := Mem.new (cap := r.cap) st.inv s1 y2 y1
    have hE : EnvRel (m.put H.next (r.b, r.cap)) (dstL q.oz.dst (q.f H.next) L) E e := by
      have := dstL_rel (d := q.oz.dst) (st.rel.mono k1) (y3 _ _ k3)
      cases hdz : q.oz.dst with
      | none => rw [hdz] at this; exact this
      | some d =>
        rw [hdz] at this
        have e1 : updO e (some d) r.v = e := by
          show upd e d r.v = e
          exact upd_same (y4 d hdz)
        rwa [e1] at this
    refine wpAnyS_monoQ (fun a w h => h.mono k1) _ ((ih k).go (al := l1 ++ l2) (m := m.put H.next (r.b, r.cap)) (by rw [← r2]; exact hk) ⟨by rw [← herase]; exact st.lst.out (by rw [hDi]; rfl), (hsub.map PE.z).nodup st.nod, st.par.sublist hsub, fun p hp => ?_, fun p hp => ready_mono (st.rdy p (hnq p hp).1) (hnq p hp).2, st.pd.mono k1 (fun i w g => g), st.all, st.env, hE, k2, k4⟩ ho h9)
    have ep := (st.ent p (hnq p hp).1).mono k1
    exact ⟨ep.op, ep.gd, ep.sel, fun x hx => by rw [look_dstL (hdd p hp x hx)]; exact ep.bad x hx, ep.no, ep.yes⟩
theorem evM_sound (hs : Region.noSelect ops = true) (hcall : CallOk False P ⟨call, noY⟩) (hd : dstAll N ops = true) : ∀ (l : List (Nat × Kd4)) (k : Nat), SndM P N ops W0 Fr call E K l k
  | [], k => by
    constructor
    intro S listed listed' D al pl L H m e a w hk st ho h
    simp only [ordM, Bool.and_eq_true, List.isEmpty_iff, List.map_eq_nil_iff] at ho
    obtain ⟨rfl, hr⟩ := ho
    subst hk
    have hre : Region.ready .any ops listed' = [] := by
      cases hx : Region.ready .any ops listed' with
      | nil => rfl
      | cons j r =>
        obtain ⟨_, _, g⟩ := ready_sub (B := []) st.lst (fun k hk => by cases hk) (by rw [hx]; exact List.mem_cons_self)
        rcases g with g | g
        · cases g
        · have g : j ∈ Region.ready .any ops listed := g
          rw [hr] at g; cases g
    refine ⟨hre, rfl, e, m, L, H, st.env, Map.le_refl m, st.inv, st.rel, ?_, h⟩
    have := st.mem
    exact this.mono (Ent.unframe (L := hpA m H.t) (R := [Fr]))
  | (i, .pure) :: l, k => sndM_pure hs hd (evM_sound hs hcall hd l)
  | (i, .load) :: l, k => sndM_load hs hd (evM_sound hs hcall hd l)
  | (i, .ann) :: l, k => sndM_ann hd (evM_sound hs hcall hd l)
  | (i, .eff) :: l, k => by
    have ih := evM_sound hs hcall hd l
    induction k with
    | zero => exact sndM_eff hcall hd ih fun k' h => by cases h
    | succ k ihk => exact sndM_eff hcall hd ih fun k' h => by cases h; exact ihk
  | (i, .real) :: l, k => by
    have ih := evM_sound hs hcall hd l
    induction k with
    | zero => exact sndM_real hd ih fun k' h => by cases h
    | succ k ihk => exact sndM_real hd ih fun k' h => by cases h; exact ihk
end
def ordMAll (ops : Array Oper) (l : List (Nat × Kd4)) : Bool := Region.noSelect ops && (Nat.beq (cnt4 l) ops.size && ordM ops l (Array.replicate ops.size false) [])
theorem evM_region {id N n : Nat} {ro : Option Nat} {ops : Array Oper} {K : RK} {a : Act} {l : List (Nat × Kd4)} (hm : P.follows .mixedOrders = true) (ho : ordMAll ops l = true) (hcall : CallOk False P ⟨call, noY⟩) (hd : dstAll N ops = true) (hnd : noDef ops = true) (ha : EnvD N a e) (he : EnvRel m .nil E e) (hi : Inv1 m H) (hmem : Mem W0 m H Fr w.drew)
    (h : evM l ops P call .nil [] .nil E H K = true) : (Code.region id ops true).wpIn (FW ro) n P (fun x a w => x = .normal ∧ RegQ N W0 Fr m E K a w) a w := by
  unfold ordMAll at ho
  simp only [Bool.and_eq_true] at ho
  obtain ⟨hs, hl, ho⟩ := ho
  refine wpIn_region_any hm (wpAny_FW hnd _ _ _ _ (wpAny_of_S _ (fun _ _ => True) _ _ _ ?_))
  rw [← Nat.eq_of_beq_eq_true hl]
  have h0 : St P N ops W0 Fr (fun _ _ => True) (Array.replicate (cnt4 l) false) (Array.replicate (cnt4 l) false) (fun _ => none) [] .nil .nil E H m e a w.drew := by
    refine ⟨⟨rfl, fun k => (by simp), fun k hk => (by cases hk), fun k hk => (by cases hk)⟩, List.nodup_nil, List.Pairwise.nil, fun p hp => (by cases hp), fun p hp => (by cases hp), fun _ _ => trivial, fun _ => trivial, ha, he, hi, ?_⟩
    exact hmem.mono (Ent.frame (L := hpA m H.t) (R := [Fr]))
  exact (evM_sound hs hcall hd l 0).go rfl h0 (by rw [Nat.eq_of_beq_eq_true hl]; exact ho) h
/-! ### An order with blocks that wait -/
noncomputable def isAlc (P : Program) (op : Op) : Bool := Op.rec (motive := fun _ => Program → Bool) (fun _ _ => false) (fun _ _ => false) (fun _ _ _ _ => false) (fun _ _ => true) (fun _ _ _ => false) (fun _ _ _ => false) (fun _ _ _ _ => true) (fun _ _ _ _ _ => false) (fun _ _ _ => false) (fun _ _ _ _ => false) (fun _ _ => false) (fun _ _ => false) (fun _ _ => false) (fun _ _ _ _ _ _ => false) (fun _ _ _ _ => false) (fun s _ _ P => Nat.beq (tyc P s) 7) (fun _ _ _ => false) (fun _ _ _ => false) (fun _ _ _ _ => false) (fun _ _ _ => false) (fun _ _ _ => false) (fun _ _ _ _ => true) (fun _ _ _ _ _ _ => false) (fun _ _ _ _ => false) (fun _ _ _ _ => false) (fun _ _ _ _ => false) (fun _ _ _ _ => false) (fun _ _ _ _ _ => false) (fun _ _ _ _ _ => false) (fun _ _ _ _ => false) (fun _ _ _ _ _ => false) (fun _ _ _ => false) (fun _ _ _ => false) (fun _ _ => false) (fun _ _ _ _ _ => false) (fun _ _ _ => false) (fun _ _ => false) (fun _ _ => false) (fun _ _ => false) (fun _ _ => false) (fun _ _ _ => false) (fun _ _ _ _ => false) (fun _ _ _ => false) op P
noncomputable def fstK {α : Type} (f : Nat → Bool) (l : List Nat) (N : α) (K : Nat → α) : α := List.rec (motive := fun _ => α) N (fun i _ ih => Bool.rec (motive := fun _ => α) ih (K i) (f i)) l
noncomputable def mk4 (P : Program) (ops : Array Oper) (n : Nat) : Array Bool → List Nat → List (Nat × Kd4) := Nat.rec (motive := fun _ => Array Bool → List Nat → List (Nat × Kd4)) (fun _ _ => [])
  (fun _ ih listed A => (fun r : List Nat => Option.rec (motive := fun _ => List (Nat × Kd4))
    (fstK (fun j => Option.rec (motive := fun _ => Bool) false (fun o => isAlc P o.op) (ops[j]?)) r
      (List.rec (motive := fun _ => List (Nat × Kd4))
        (fstK (fun z => (Region.ready .any ops (un listed (A.erase z))).all fun j => Nat.beq j z) A [] fun z => (z, .real) :: ih (listed.setIfInBounds z true) (A.erase z))
        (fun j _ _ => (j, .eff) :: ih (listed.setIfInBounds j true) A) r)
      (fun j => (j, .ann) :: ih listed (j :: A)))
    (fun p => (p.1, Kd3.rec (motive := fun _ => Kd4) .pure .load .eff p.2) :: ih (listed.setIfInBounds p.1 true) A) (firstK P ops listed r)) ((Region.ready .any ops listed).filter fun j => !(A.contains j))) n
noncomputable def order4 (P : Program) (ops : Array Oper) : List (Nat × Kd4) := mk4 P ops (Nat.mul 2 ops.size) (Array.replicate ops.size false) []
end
end Go.Evl
