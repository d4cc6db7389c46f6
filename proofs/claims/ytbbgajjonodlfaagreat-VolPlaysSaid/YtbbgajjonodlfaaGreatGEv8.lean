/-
  The evaluator's quiet operations: literals, lengths, types asked; all of them together. It proves nothing of the program by itself.
-/
import Derived.Test.YtbbgajjonodlfaaGreatGEv6
set_option linter.unusedVariables false
set_option linter.unusedSimpArgs false
namespace Go.Evl
open Go Go.Sl
/-! ### Rows that begin as noughts -/
def trOf : List Value → Nat → Tr AV → Tr AV
  | [], _, t => t
  | v :: vs, i, t => trOf vs (i + 1) (Tr.set (some (absV v)) t (i + 1))
theorem trOf_get (m : Map) : ∀ (vs : List Value) (i : Nat) (t : Tr AV) (j : Nat) (v : AV), (trOf vs i t).get (j + 1) = some v →
    (∃ u, i ≤ j ∧ vs[j - i]? = some u ∧ rel m v u) ∨ ((j < i ∨ i + vs.length ≤ j) ∧ t.get (j + 1) = some v)
  | [], i, t, j, v, h => .inr ⟨by simp; omega, h⟩
  | u :: vs, i, t, j, v, h => by
    rcases trOf_get m vs (i + 1) _ j v h with ⟨x, h1, h2, h3⟩ | ⟨h1, h2⟩
    · refine .inl ⟨x, by omega, ?_, h3⟩
      rw [show j - i = (j - (i + 1)) + 1 from by omega]
      simpa using h2
    · rw [Tr.get_set _ _ _ _ (by omega) (by omega)] at h2
      by_cases g : j + 1 = i + 1
      · rw [if_pos g] at h2
        simp only [Option.some.injEq] at h2
        subst h2
        refine .inl ⟨u, by omega, ?_, absV_rel m u⟩
        rw [show j - i = 0 from by omega]
        rfl
      · rw [if_neg g] at h2
        refine .inr ⟨?_, h2⟩
        simp only [List.length_cons]
        omega
def isB0 : Value → Bool
  | .int .u8 0 => true
  | _ => false
def bodyOf (vs : List Value) : Body := cond (vs.all isB0) (.bs vs.length 0) (.tr vs.length (trOf vs 0 .nil))
theorem bytes0 : ∀ n, (bytesOf n 0).map u8V = List.replicate n (Value.int .u8 0)
  | 0 => rfl
  | n + 1 => by
    simp only [bytesOf, List.map_cons, List.replicate_succ, Nat.zero_div, bytes0 n]
    rfl
theorem bodyOf_rel (m : Map) (vs : List Value) : bodyRel m (bodyOf vs) vs := by
  unfold bodyOf
  cases h : vs.all isB0 with
  | true =>
    show vs = (bytesOf vs.length 0).map u8V
    rw [bytes0, List.eq_replicate_iff]
    refine ⟨rfl, fun v hv => ?_⟩
    have := List.all_eq_true.1 h v hv
    unfold isB0 at this
    split at this
    · rfl
    · cases this
  | false =>
    refine ⟨rfl, fun i hi => ?_, fun i v u h1 h2 => ?_⟩
    · cases hg : (trOf vs 0 Tr.nil).get (i + 1) with
      | none => rfl
      | some v =>
        rcases trOf_get m vs 0 .nil i v hg with ⟨x, _, h3, _⟩ | ⟨_, h3⟩
        · rw [List.getElem?_eq_none (by omega)] at h3; cases h3
        · cases h3
    rcases trOf_get m vs 0 .nil i v h1 with ⟨x, _, h3, h4⟩ | ⟨_, h3⟩
    · rw [Nat.sub_zero, h2] at h3; cases h3; exact h4
    · cases h3
def repBody (n : Nat) (z : List Value) : Body := match z with
  | [v] => cond (isB0 v) (.bs n 0) (bodyOf (zeros n z))
  | _ => bodyOf (zeros n z)
theorem repBody_rel (m : Map) (n : Nat) (z : List Value) : bodyRel m (repBody n z) (zeros n z) := by
  unfold repBody
  split
  · rename_i v
    cases h : isB0 v with
    | false => exact bodyOf_rel m _
    | true =>
      have hv : v = .int .u8 0 := by
        unfold isB0 at h; split at h
        · rfl
        · cases h
      subst hv
      show zeros n [.int .u8 0] = (bytesOf n 0).map u8V
      rw [bytes0]
      unfold zeros
      induction n with
      | zero => rfl
      | succ n ih => rw [List.replicate_succ, List.flatten_cons, ih, List.replicate_succ]; rfl
  · exact bodyOf_rel m _
noncomputable def bodyK (c : Body) (K : Body → Bool) : Bool := Body.rec (motive := fun _ => (Body → Bool) → Bool) (fun l n K => K (.bs l n)) (fun l k n K => K (.bu l k n)) (fun s t K => K (.tr s t)) c K
theorem bodyK_eq (c : Body) (K : Body → Bool) : bodyK c K = K c := by cases c <;> rfl
def tyB (P : Program) (t : TypeId) : Option (Nat × Nat × List Value) := match (P.info? t).map (fun i => (i.size, i.bytes, i.zero.map (·.cells.toList))) with
  | some (s, b, some z) => some (s, b, z)
  | _ => none
theorem tyB_sound {P : Program} {t sz bytes : Nat} {z : List Value} (h : tyB P t = some (sz, bytes, z)) : TyInfo P t sz bytes z := by
  unfold tyB at h
  split at h
  · rename_i s b z' hm; cases h; exact TyInfo.of hm
  · cases h

/-! ### Literals -/
noncomputable def partsV (v : AV) (K : AV → Bool) : Bool := AV.rec (motive := fun _ => (AV → Bool) → Bool) (fun _ => false) (fun x0 K => K (.cons (.b x0) .nil)) (fun x0 x1 K => K (.cons (.i x0 x1) .nil)) (fun x0 x1 K => K (.cons (.s x0 x1) .nil)) (fun  K => K (.cons (.pn) .nil)) (fun x0 x1 K => K (.cons (.p x0 x1) .nil)) (fun  K => K (.cons (.sn) .nil)) (fun  K => K (.cons (.se) .nil)) (fun x0 x1 x2 x3 K => K (.cons (.sl x0 x1 x2 x3) .nil)) (fun x0 x1 x2 x3 K => K (.cons (.sv x0 x1 x2 x3) .nil)) (fun  K => K (.cons (.mn) .nil)) (fun x0 K => K (.cons (.m x0) .nil)) (fun x0 x1 _ K => K (.cons (.fn x0 x1) .nil)) (fun  K => K (.cons (.fnil) .nil)) (fun  K => K (.cons (.inil) .nil)) (fun x0 x1 _ K => K (.cons (.ifc x0 x1) .nil)) (fun _ => false) (fun _ _ _ _ _ => false) (fun l _ K => K l) (fun x0 _ K => K (.cons (.tup x0) .nil)) v K
theorem partsV_sound {m : Map} {v : AV} {u : Value} {K : AV → Bool} (h : partsV v K = true) (hr : rel m v u) : ∃ l, relL m l u.cells.toList ∧ K l = true := by
  cases v with
  | bad => cases h
  | nil => cases h
  | cons a t => cases h
  | agg l => obtain ⟨vs, r1, r2⟩ := hr; subst r2; exact ⟨l, by simpa [Value.cells] using r1, h⟩
  | b x => exact ⟨.cons (.b x) .nil, ⟨u, [], hr, rfl, by rw [rel_b hr]; rfl⟩, h⟩
  | i k n => exact ⟨.cons (.i k n) .nil, ⟨u, [], hr, rfl, by rw [show u = _ from hr]; rfl⟩, h⟩
  | s l n => exact ⟨.cons (.s l n) .nil, ⟨u, [], hr, rfl, by rw [show u = _ from hr]; rfl⟩, h⟩
  | pn => exact ⟨.cons (.pn) .nil, ⟨u, [], hr, rfl, by rw [show u = _ from hr]; rfl⟩, h⟩
  | sn => exact ⟨.cons (.sn) .nil, ⟨u, [], hr, rfl, by rw [show u = _ from hr]; rfl⟩, h⟩
  | mn => exact ⟨.cons (.mn) .nil, ⟨u, [], hr, rfl, by rw [show u = _ from hr]; rfl⟩, h⟩
  | fnil => exact ⟨.cons (.fnil) .nil, ⟨u, [], hr, rfl, by rw [show u = _ from hr]; rfl⟩, h⟩
  | inil => exact ⟨.cons (.inil) .nil, ⟨u, [], hr, rfl, by rw [show u = _ from hr]; rfl⟩, h⟩
  | p id off => exact ⟨.cons (.p id off) .nil, ⟨u, [], hr, rfl, by obtain ⟨_, _, _, r⟩ := hr; rw [r]; rfl⟩, h⟩
  | se => exact ⟨.cons (.se) .nil, ⟨u, [], hr, rfl, by obtain ⟨_, _, r⟩ := hr; rw [r]; rfl⟩, h⟩
  | sl id off n c => exact ⟨.cons (.sl id off n c) .nil, ⟨u, [], hr, rfl, by obtain ⟨_, _, _, r, _⟩ := hr; rw [r]; rfl⟩, h⟩
  | sv id off n k => exact ⟨.cons (.sv id off n k) .nil, ⟨u, [], hr, rfl, by obtain ⟨_, g, _, _, r⟩ := hr; rw [r]; cases g <;> rfl⟩, h⟩
  | m id => exact ⟨.cons (.m id) .nil, ⟨u, [], hr, rfl, by obtain ⟨_, _, _, r⟩ := hr; rw [r]; rfl⟩, h⟩
  | fn f c => exact ⟨.cons (.fn f c) .nil, ⟨u, [], hr, rfl, by obtain ⟨_, g, _, _, r⟩ := hr; rw [r]; cases g <;> rfl⟩, h⟩
  | ifc t v => exact ⟨.cons (.ifc t v) .nil, ⟨u, [], hr, rfl, by obtain ⟨_, _, r⟩ := hr; rw [r]; rfl⟩, h⟩
  | tup l => exact ⟨.cons (.tup l) .nil, ⟨u, [], hr, rfl, by obtain ⟨_, _, r⟩ := hr; rw [r]; rfl⟩, h⟩
/-- The length of a list of cells. -/
noncomputable def lenL (l : AV) : Nat := AV.rec (motive := fun _ => Nat) 0 (fun _ => 0) (fun _ _ => 0) (fun _ _ => 0) 0 (fun _ _ => 0) 0 0 (fun _ _ _ _ => 0) (fun _ _ _ _ => 0) 0 (fun _ => 0) (fun _ _ _ => 0) 0 0 (fun _ _ _ => 0) 0 (fun _ _ _ n => Nat.succ n) (fun _ _ => 0) (fun _ _ => 0) l
theorem lenL_rel {m : Map} : ∀ {l : AV} {vs : List Value}, relL m l vs → lenL l = vs.length := by
  intro l
  induction l with
  | nil => intro vs h; cases h; rfl
  | cons a t _ ih => intro vs h; obtain ⟨u, us, _, h2, rfl⟩ := h; show Nat.succ (lenL t) = _; rw [ih h2]; rfl
  | _ => intro vs h; cases h
/-- Where the parts of a type lie: offset, cells. -/
def placesB (P : Program) (t : TypeId) : Option (List (Nat × Nat)) := match P.underlying t with
  | some (.struct fs) => fs.toList.mapM fun f => (P.info? f.type).map fun i => (f.offset, i.size)
  | some (.array n el) => (P.info? el).map fun i => (List.range n).map fun j => (j * i.size, i.size)
  | _ => none
theorem fill_cons {place : Nat → Option (Nat × Nat)} {i off sz : Nat} {v : Value} {us cs : List Value} (hp : place i = some (off, sz)) (hv : v.cells.toList = us) (hl : us.length = sz) (hb : off + sz ≤ cs.length) (rest : List (Nat × Value)) :
    Instr.fill place cs.toArray ((i, v) :: rest) = Instr.fill place (lay cs off us).toArray rest := by
  conv => lhs; unfold Instr.fill
  rw [hp]
  simp only
  have hsz : v.cells.size = sz := by rw [← Array.length_toList, hv, hl]
  rw [if_neg (by rw [hsz]; simp; omega)]
  have h3 : (v.cells.zipIdx.foldl (fun cs (c : Value × Nat) => cs.setIfInBounds (off + c.2) c.1) cs.toArray) = (lay cs off v.cells.toList).toArray := by
    have : ∀ (l : List (Value × Nat)) (cs : List Value), (l.foldl (fun cs (c : Value × Nat) => cs.setIfInBounds (off + c.2) c.1) cs.toArray) = (l.foldl (fun cs (c : Value × Nat) => cs.set (off + c.2) c.1) cs).toArray := by
      intro l
      induction l with
      | nil => intro cs; rfl
      | cons p l ih => intro cs; rw [List.foldl_cons, List.foldl_cons, ← ih]; simp
    rw [← Array.foldl_toList, Array.toList_zipIdx, this, foldl_lay]
    rfl
  rw [h3, hv]
noncomputable def fillK (pl : List (Nat × Nat)) (L E : En) (ps : List (Nat × Operand)) : Body → (Body → Bool) → Bool :=
  List.rec (motive := fun _ => Body → (Body → Bool) → Bool) (fun c K => K c) (fun p _ ih c K => optK (pl[p.1]?) fun q => partsV (opV p.2 L E) fun l => andK (Nat.beq (lenL l) q.2) (andK (Nat.ble (Nat.add q.1 q.2) c.size) (putsK l c q.1 fun c => ih c K))) ps
theorem fillK_sound {pl : List (Nat × Nat)} {place : Nat → Option (Nat × Nat)} {m : Map} {L E : En} {e : Env} (he : EnvRel m L E e) (hp : ∀ i x, pl[i]? = some x → place i = some x) : ∀ {ps : List (Nat × Operand)} {c : Body} {K : Body → Bool} {cs : List Value}, fillK pl L E ps c K = true → bodyRel m c cs →
    ∃ c' cs', bodyRel m c' cs' ∧ cs'.length = cs.length ∧ c'.size = c.size ∧ K c' = true ∧ Instr.fill place cs.toArray (ps.map fun p => (p.1, ev e p.2)) = some cs'.toArray
  | [], c, K, cs, h, hb => ⟨c, cs, hb, rfl, rfl, h, rfl⟩
  | p :: ps, c, K, cs, h, hb => by
    have h : optK (pl[p.1]?) (fun q => partsV (opV p.2 L E) fun l => andK (Nat.beq (lenL l) q.2) (andK (Nat.ble (Nat.add q.1 q.2) c.size) (putsK l c q.1 fun c => fillK pl L E ps c K))) = true := h
    obtain ⟨⟨off, sz⟩, h1, h2⟩ := optK_sound h
    obtain ⟨l, h3, h4⟩ := partsV_sound h2 (opV_rel he p.2)
    obtain ⟨h5, h6⟩ := andK_sound h4
    obtain ⟨h7, h8⟩ := andK_sound h6
    obtain ⟨c1, h9, h10, h11⟩ := putsK_sound (m := m) h8
    have h12 := h11 cs _ hb h3
    have hlen : (ev e p.2).cells.toList.length = sz := by rw [← lenL_rel h3]; exact Nat.eq_of_beq_eq_true h5
    have hle : off + sz ≤ cs.length := by rw [hb.len]; exact Nat.le_of_ble_eq_true h7
    obtain ⟨c2, cs2, h13, h14, h15, h16, h17⟩ := fillK_sound he hp h9 h12.2.2
    refine ⟨c2, cs2, h13, by rw [h14, lay_length], h15.trans h10, h16, ?_⟩
    rw [List.map_cons, fill_cons (hp _ _ h1) rfl hlen hle]
    exact h17
section
variable {P : Program} {e : Env} {o : Oper} {m : Map} {L E : En} {K : AV → Bool} {x y : Operand}
noncomputable def pBuild (t : TypeId) (ps : Array (Nat × Operand)) (P : Program) (L E : En) (K : AV → Bool) : Bool := optK (placesB P t) fun pl => optK (tyB P t) fun q => bodyK (bodyOf q.2.2) fun c => fillK pl L E ps.toList c fun c => cellsK c 0 c.size .nil fun l => K (.agg l)
theorem mapM_get {α β : Type} {f : α → Option β} : ∀ {l : List α} {r : List β}, l.mapM f = some r → l.map f = r.map some
  | [], r, h => by simp at h; subst h; rfl
  | a :: l, r, h => by
    simp only [List.mapM_cons, Option.bind_eq_bind, Option.bind_eq_some_iff, Option.pure_def, Option.some.injEq] at h
    obtain ⟨b, h1, bs, h2, rfl⟩ := h
    simp [h1, mapM_get h2]
theorem pBuild_sound {t : TypeId} {ps : Array (Nat × Operand)} (hop : o.op = .build t ps) (he : EnvRel m L E e) (h : pBuild t ps P L E K = true) : PS P e o m K := by
  obtain ⟨pl, h1, h2⟩ := optK_sound h
  obtain ⟨⟨sz, bytes, z⟩, h3, h4⟩ := optK_sound h2
  rw [bodyK_eq] at h4
  have hi := tyB_sound h3
  -- the places
  have key : ∃ place : Nat → Option (Nat × Nat), (∀ i x, pl[i]? = some x → place i = some x) ∧ ∀ cs', Instr.fill place z.toArray (ps.toList.map fun p => (p.1, ev e p.2)) = some cs' → PRun P e o (.agg cs') := by
    unfold placesB at h1
    split at h1
    · rename_i fs hu
      refine ⟨(pl.toArray[·]?), fun i x hx => by simpa using hx, fun cs' hf w => ?_⟩
      obtain ⟨fs', h5, h6⟩ := Places.of (P := P) (places := pl) hu (mapM_get h1)
      obtain ⟨zv, hz, hr⟩ := run_zeroValue' (w := w) hi
      unfold execOp; rw [hop]
      simp only [Instr.build, Sem.run_bind, hr, Result.andThen_ok, h5, run_underlying' h5, h6, hz]
      have hf' : Instr.fill (fun x => pl.toArray[x]?) z.toArray (ps.map fun p => (p.1, ev e p.2)).toList = some cs' := by rw [← hf]; simp
      rw [hf']
      rfl
    · rename_i n el hu
      cases hie : P.info? el with
      | none => rw [hie] at h1; cases h1
      | some inf =>
        rw [hie] at h1
        simp only [Option.map_some, Option.some.injEq] at h1
        subst h1
        refine ⟨fun i => some (i * inf.size, inf.size), fun i x hx => ?_, fun cs' hf w => ?_⟩
        · rw [List.getElem?_map] at hx
          cases hr : (List.range n)[i]? with
          | none => rw [hr] at hx; cases hx
          | some j =>
            rw [hr] at hx
            have : j = i := by
              have hlt : i < n := by
                rcases Nat.lt_or_ge i n with g | g
                · exact g
                · rw [List.getElem?_eq_none (by simpa using g)] at hr; cases hr
              rw [List.getElem?_range hlt] at hr
              cases hr; rfl
            subst this
            exact hx
        · obtain ⟨zv, hz, hr⟩ := run_zeroValue' (w := w) hi
          unfold execOp; rw [hop]
          simp only [Instr.build, Sem.run_bind, hr, Result.andThen_ok, run_underlying' hu, sizeOf, typeInfo, run_program, hie, Sem.run_pure, hz]
          have hf' : Instr.fill (fun i => some (i * inf.size, inf.size)) z.toArray (ps.map fun p => (p.1, ev e p.2)).toList = some cs' := by rw [← hf]; simp
          rw [hf']
          rfl
    · cases h1
  obtain ⟨place, k1, k2⟩ := key
  obtain ⟨c', cs', h5, h6, h7, h8, h9⟩ := fillK_sound he k1 h4 (bodyOf_rel m z)
  obtain ⟨h10, l, h11, h12⟩ := cellsK_sound (m := m) h8
  have h13 := h12 cs' [] h5 rfl
  rw [List.append_nil, List.drop_zero, List.take_of_length_le (by rw [h5.len]; exact Nat.le_refl _)] at h13
  exact PS.mk1 (av := .agg l) (k2 _ h9) ⟨cs', h13, rfl⟩ h11

/-! ### Interfaces, functions -/
def concB (P : Program) (t : TypeId) : Bool := match P.underlying t with
  | some (.interface _) => false
  | some _ => true
  | none => false
theorem concB_sound {P : Program} {t : TypeId} (h : concB P t = true) : ∃ d, P.underlying t = some d ∧ ∀ ms, d ≠ .interface ms := by
  unfold concB at h
  split at h
  · cases h
  · rename_i d hd hd2; exact ⟨d, hd2, fun ms g => by subst g; exact hd ms rfl⟩
  · cases h
noncomputable def pMakeIf (t : TypeId) (x : Operand) (P : Program) (L E : En) (K : AV → Bool) : Bool := andK (concB P t) (forceK (opV x L E) fun v => K (.ifc t v))
theorem pMakeIf_sound {t : TypeId} (hop : o.op = .makeInterface t x) (he : EnvRel m L E e) (h : pMakeIf t x P L E K = true) : PS P e o m K := by
  obtain ⟨h1, h2⟩ := andK_sound h
  rw [forceK_eq] at h2
  obtain ⟨d, h3, h4⟩ := concB_sound h1
  refine PS.mk1 (av := .ifc t _) (fun w => ?_) ⟨ev e x, opV_rel he x, rfl⟩ h2
  unfold execOp; rw [hop]
  simp only [Instr.makeInterface, Sem.run_bind, run_underlying' h3, Result.andThen_ok]
  cases d <;> first | rfl | exact absurd rfl (h4 _)
noncomputable def listK (xs : List Operand) (L E : En) : (AV → Bool) → Bool := List.rec (motive := fun _ => (AV → Bool) → Bool) (fun K => K .nil) (fun x _ ih K => forceK (opV x L E) fun v => ih fun l => K (.cons v l)) xs
theorem listK_sound (he : EnvRel m L E e) : ∀ {xs : List Operand} {K : AV → Bool}, listK xs L E K = true → ∃ l, relL m l (xs.map (ev e)) ∧ K l = true
  | [], K, h => ⟨.nil, rfl, h⟩
  | x :: xs, K, h => by
    have h : forceK (opV x L E) (fun v => listK xs L E fun l => K (.cons v l)) = true := h
    rw [forceK_eq] at h
    obtain ⟨l, h1, h2⟩ := listK_sound he h
    exact ⟨.cons (opV x L E) l, ⟨ev e x, xs.map (ev e), opV_rel he x, h1, rfl⟩, h2⟩
noncomputable def noArr (xs : Array Operand) (x : Bool) : Bool := List.rec (motive := fun _ => Bool → Bool) (fun x => x) (fun _ _ _ _ => false) xs.toList x
theorem noArr_sound {xs : Array Operand} {x : Bool} (h : noArr xs x = true) : xs = #[] ∧ x = true := by
  obtain ⟨l⟩ := xs
  cases l with
  | nil => exact ⟨rfl, h⟩
  | cons _ _ => cases h
noncomputable def isFnB (f : Fn) (x y : Bool) : Bool := Fn.rec (motive := fun _ => Bool → Bool → Bool) (fun _ x _ => x) (fun _ _ y => y) (fun _ _ _ _ => false) (fun _ _ _ _ _ _ => false) (fun _ _ _ => false) f x y
theorem isFnB_sound {f : Fn} {x y : Bool} (h : isFnB f x y = true) : ((∃ g, f = .func g) ∧ x = true) ∨ ((∃ g, f = .method g) ∧ y = true) := by
  cases f with
  | func g => exact .inl ⟨⟨_, rfl⟩, h⟩
  | method g => exact .inr ⟨⟨_, rfl⟩, h⟩
  | _ => cases h
noncomputable def pMakeFn (f : Fn) (first caps : Array Operand) (P : Program) (L E : En) (K : AV → Bool) : Bool := isFnB f (noArr first (listK caps.toList L E fun l => K (.fn f l))) (noArr caps (listK first.toList L E fun l => K (.fn f l)))
theorem pMakeFn_sound {f : Fn} {first caps : Array Operand} (hop : o.op = .makeFunc f first caps) (he : EnvRel m L E e) (h : pMakeFn f first caps P L E K = true) : PS P e o m K := by
  rcases isFnB_sound h with ⟨⟨g, rfl⟩, h2⟩ | ⟨⟨g, rfl⟩, h2⟩
  · obtain ⟨rfl, h2⟩ := noArr_sound h2
    obtain ⟨l, h3, h4⟩ := listK_sound he h2
    refine PS.mk1 (av := .fn (.func g) l) (fun w => ?_) ⟨_, _, h3, rfl, rfl⟩ h4
    unfold execOp; rw [hop]
    simp only [Instr.makeFunc, mkFn]
    have : Array.map (ev e) caps = (caps.toList.map (ev e)).toArray := by apply Array.ext'; simp
    rw [this]
    simp
  · obtain ⟨rfl, h2⟩ := noArr_sound h2
    obtain ⟨l, h3, h4⟩ := listK_sound he h2
    refine PS.mk1 (av := .fn (.method g) l) (fun w => ?_) ⟨_, _, h3, rfl, rfl⟩ h4
    unfold execOp; rw [hop]
    simp only [Instr.makeFunc, mkFn]
    have : Array.map (ev e) first = (first.toList.map (ev e)).toArray := by apply Array.ext'; simp
    rw [this]
    simp
def listAV : List Value → AV
  | [] => .nil
  | v :: l => .cons (absV v) (listAV l)
theorem listAV_rel {m : Map} : ∀ (l : List Value), relL m (listAV l) l
  | [] => rfl
  | v :: l => ⟨v, l, absV_rel m v, listAV_rel l, rfl⟩
def absZ : Value → AV
  | .agg cs => .agg (listAV cs.toList)
  | v => absV v
theorem absZ_rel {m : Map} (v : Value) : rel m (absZ v) v := by
  unfold absZ
  split
  · exact ⟨_, listAV_rel _, by simp⟩
  · exact absV_rel m _
def zvB (P : Program) (t : TypeId) : Option Value := (P.info? t).bind (·.zero)
theorem zvB_sound {P : Program} {t : TypeId} {v : Value} {w : World} (h : zvB P t = some v) : (zeroValue t).run P w = .ok v w := by
  unfold zvB at h
  cases hi : P.info? t with
  | none => rw [hi] at h; cases h
  | some i => rw [hi] at h; simp [zeroValue, typeInfo, hi, show i.zero = some v from h]
/-- Has the type the methods that are asked? -/
def missB (P : Program) (a t : TypeId) : Option Bool := match P.underlying a, P.info? t with
  | some (.interface want), some i => some (Instr.missingMethod want i.methods).isNone
  | _, _ => none
noncomputable def tup2 (v : AV) (b : Bool) (K : AV → Bool) : Bool := forceK v fun v => K (.tup (.cons v (.cons (.b b) .nil)))
theorem tup2_rel {m : Map} {v : AV} {u : Value} {b : Bool} (h : rel m v u) : rel m (.tup (.cons v (.cons (.b b) .nil))) (.tuple #[u, .bool b]) := ⟨[u, .bool b], ⟨u, [.bool b], h, ⟨.bool b, [], rfl, rfl, rfl⟩, rfl⟩, rfl⟩
theorem optD_sound {α : Type} {o : Option α} (h : o.isSome = true) : ∃ d, o = some d := Option.isSome_iff_exists.1 h
noncomputable def taFail (a : TypeId) (ok : Bool) (P : Program) (K : AV → Bool) : Bool := andK ok (optK (zvB P a) fun z => tup2 (absZ z) false K)
noncomputable def taV (x : AV) (a : TypeId) (ok : Bool) (P : Program) (K : AV → Bool) : Bool := AV.rec (motive := fun _ => (TypeId) → (Bool) → (Program) → (AV → Bool) → Bool) (fun _ _ _ _ => false) (fun _ _ _ _ _ => false) (fun _ _ _ _ _ _ => false) (fun _ _ _ _ _ _ => false) (fun _ _ _ _ => false) (fun _ _ _ _ _ _ => false) (fun _ _ _ _ => false) (fun _ _ _ _ => false) (fun _ _ _ _ _ _ _ _ => false) (fun _ _ _ _ _ _ _ _ => false) (fun _ _ _ _ => false) (fun _ _ _ _ _ => false) (fun _ _ _ _ _ _ _ => false) (fun _ _ _ _ => false) (fun a ok P K => andK (P.underlying a).isSome (taFail a ok P K)) (fun t v _ a ok P K => Bool.rec (motive := fun _ => Bool) (optK (missB P a t) fun q => Bool.rec (motive := fun _ => Bool) (taFail a ok P K) (Bool.rec (motive := fun _ => Bool) (forceK (.ifc t v) K) (tup2 (.ifc t v) true K) ok) q) (Bool.rec (motive := fun _ => Bool) (taFail a ok P K) (Bool.rec (motive := fun _ => Bool) (forceK v K) (tup2 v true K) ok) (Nat.beq t a)) (concB P a)) (fun _ _ _ _ => false) (fun _ _ _ _ _ _ _ _ => false) (fun _ _ _ _ _ _ => false) (fun _ _ _ _ _ _ => false) x a ok P K
noncomputable def pTypeAssert (x : Operand) (xT a : TypeId) (ok : Bool) (P : Program) (L E : En) (K : AV → Bool) : Bool := taV (opV x L E) a ok P K
theorem pTypeAssert_sound {xT a : TypeId} {ok : Bool} (hop : o.op = .typeAssert x xT a ok) (he : EnvRel m L E e) (h : pTypeAssert x xT a ok P L E K = true) : PS P e o m K := by
  unfold pTypeAssert taV at h
  generalize hv : opV x L E = v at h
  have hr := opR he hv
  cases v with
  | inil =>
    have hr : ev e x = .nilIface := hr
    obtain ⟨h1', h⟩ := andK_sound h
    obtain ⟨h1, h2⟩ := andK_sound h
    subst h1
    obtain ⟨z, h3, h4⟩ := optK_sound h2
    unfold tup2 at h4
    rw [forceK_eq] at h4
    refine PS.mk1 (fun w => ?_) (tup2_rel (absZ_rel z)) h4
    unfold execOp; rw [hop]; simp only [hr]
    obtain ⟨d, hd⟩ := optD_sound h1'
    simp only [Instr.typeAssert, Sem.run_bind, run_underlying' hd, Result.andThen_ok]
    cases d <;> simp [zvB_sound h3]
  | ifc t v =>
    obtain ⟨u, r1, r2⟩ := hr
    dsimp only at h
    cases hc : concB P a with
    | true =>
      rw [hc] at h
      obtain ⟨d, h3, h4⟩ := concB_sound hc
      cases hta : Nat.beq t a with
      | true =>
        rw [hta] at h
        have := Nat.eq_of_beq_eq_true hta
        subst this
        have hrun : ∀ w, (execOp (ev e) o).run P w = .ok (.value (if ok then .tuple #[u, .bool true] else u)) w := by
          intro w
          unfold execOp; rw [hop]; simp only [r2]
          simp only [Instr.typeAssert, Sem.run_bind, run_underlying' h3, Result.andThen_ok]
          cases d <;> first | (exact absurd rfl (h4 _)) | (simp only [if_true]; cases ok <;> rfl)
        cases ok with
        | true =>
          have h : tup2 v true K = true := h
          unfold tup2 at h
          rw [forceK_eq] at h
          exact PS.mk1 hrun (tup2_rel r1) h
        | false =>
          have h : forceK v K = true := h
          rw [forceK_eq] at h
          exact PS.mk1 (av := v) hrun r1 h
      | false =>
        rw [hta] at h
        obtain ⟨h1, h2⟩ := andK_sound (c := ok) h
        subst h1
        obtain ⟨z, h5, h6⟩ := optK_sound h2
        unfold tup2 at h6
        rw [forceK_eq] at h6
        refine PS.mk1 (fun w => ?_) (tup2_rel (absZ_rel z)) h6
        have hne : ¬ t = a := fun g => by rw [g] at hta; simp at hta
        unfold execOp; rw [hop]; simp only [r2]
        simp only [Instr.typeAssert, Sem.run_bind, run_underlying' h3, Result.andThen_ok]
        cases d <;> first | (exact absurd rfl (h4 _)) | (simp [hne, zvB_sound h5])
    | false =>
      rw [hc] at h
      obtain ⟨q, h1, h2⟩ := optK_sound (o := missB P a t) h
      unfold missB at h1
      split at h1
      · rename_i want i hu hi
        simp only [Option.some.injEq] at h1
        cases hq : Instr.missingMethod want i.methods with
        | none =>
          rw [hq] at h1
          have h1 : q = true := h1.symm
          subst h1
          have hrun : ∀ w, (execOp (ev e) o).run P w = .ok (.value (if ok then .tuple #[.iface t u, .bool true] else .iface t u)) w := by
            intro w
            unfold execOp; rw [hop]; simp only [r2]
            simp only [Instr.typeAssert, Sem.run_bind, run_underlying' hu, Result.andThen_ok, typeInfo, run_program, hi, Sem.run_pure, hq]
          have ri : rel m (.ifc t v) (.iface t u) := ⟨u, r1, rfl⟩
          cases ok with
          | true =>
            have h2 : tup2 (.ifc t v) true K = true := h2
            unfold tup2 at h2
            rw [forceK_eq] at h2
            exact PS.mk1 hrun (tup2_rel ri) h2
          | false =>
            have h2 : forceK (.ifc t v) K = true := h2
            rw [forceK_eq] at h2
            exact PS.mk1 (av := .ifc t v) hrun ri h2
        | some mm =>
          rw [hq] at h1
          have h1 : q = false := h1.symm
          subst h1
          obtain ⟨g1, g2⟩ := andK_sound (c := ok) h2
          subst g1
          obtain ⟨z, h5, h6⟩ := optK_sound g2
          unfold tup2 at h6
          rw [forceK_eq] at h6
          refine PS.mk1 (fun w => ?_) (tup2_rel (absZ_rel z)) h6
          unfold execOp; rw [hop]; simp only [r2]
          simp only [Instr.typeAssert, Sem.run_bind, run_underlying' hu, Result.andThen_ok, typeInfo, run_program, hi, Sem.run_pure, hq]
          simp [zvB_sound h5]
      · cases h1
  | _ => cases h
/-! ### Lengths -/
noncomputable def lenV (x : AV) (P : Program) (t : TypeId) (K : AV → Bool) : Bool := AV.rec (motive := fun _ => (Program) → (TypeId) → (AV → Bool) → Bool) (fun _ _ _ => false) (fun _ _ _ _ => false) (fun _ _ _ _ _ => false) (fun l n P t K => andK (Nat.beq (tyc P t) 7) (K (.i .i64 (Int.ofNat l)))) (fun _ _ _ => false) (fun _ _ _ _ _ => false) (fun  P t K => andK (Nat.beq (tyc P t) 3) (K (.i .i64 (Int.ofNat 0)))) (fun  P t K => andK (Nat.beq (tyc P t) 3) (K (.i .i64 (Int.ofNat 0)))) (fun i o n c P t K => andK (Nat.beq (tyc P t) 3) (K (.i .i64 (Int.ofNat n)))) (fun i o n k P t K => andK (Nat.beq (tyc P t) 3) (K (.i .i64 (Int.ofNat n)))) (fun _ _ _ => false) (fun _ _ _ _ => false) (fun _ _ _ _ _ _ => false) (fun _ _ _ => false) (fun _ _ _ => false) (fun _ _ _ _ _ _ => false) (fun _ _ _ => false) (fun _ _ _ _ _ _ _ => false) (fun _ _ _ _ _ => false) (fun _ _ _ _ _ => false) x P t K
noncomputable def capV (x : AV) (P : Program) (t : TypeId) (K : AV → Bool) : Bool := AV.rec (motive := fun _ => (Program) → (TypeId) → (AV → Bool) → Bool) (fun _ _ _ => false) (fun _ _ _ _ => false) (fun _ _ _ _ _ => false) (fun _ _ _ _ _ => false) (fun _ _ _ => false) (fun _ _ _ _ _ => false) (fun P t K => andK (Nat.beq (tyc P t) 3) (K (.i .i64 (Int.ofNat 0)))) (fun _ _ _ => false) (fun i o n c P t K => andK (Nat.beq (tyc P t) 3) (K (.i .i64 (Int.ofNat c)))) (fun _ _ _ _ _ _ _ => false) (fun _ _ _ => false) (fun _ _ _ _ => false) (fun _ _ _ _ _ _ => false) (fun _ _ _ => false) (fun _ _ _ => false) (fun _ _ _ _ _ _ => false) (fun _ _ _ => false) (fun _ _ _ _ _ _ _ => false) (fun _ _ _ _ _ => false) (fun _ _ _ _ _ => false) x P t K
noncomputable def args1 (c : Call) (K : Operand → TypeId → Bool) : Bool := match c.args.toList, c.argTypes.toList with
  | [x], [t] => K x t
  | _, _ => false
noncomputable def args2 (c : Call) (K : Operand → Operand → Bool) : Bool := match c.args.toList with
  | [x, y] => K x y
  | _ => false
theorem args1_sound {c : Call} {K : Operand → TypeId → Bool} (h : args1 c K = true) : ∃ x t, c.args = #[x] ∧ c.argTypes = #[t] ∧ K x t = true := by
  unfold args1 at h
  split at h
  · rename_i x t h1 h2; exact ⟨x, t, Array.ext' h1, Array.ext' h2, h⟩
  · cases h
theorem args2_sound {c : Call} {K : Operand → Operand → Bool} (h : args2 c K = true) : ∃ x y, c.args = #[x, y] ∧ K x y = true := by
  unfold args2 at h
  split at h
  · rename_i x y h1; exact ⟨x, y, Array.ext' h1, h⟩
  · cases h
noncomputable def cLen (c : Call) (P : Program) (L E : En) (K : AV → Bool) : Bool := args1 c fun x t => lenV (opV x L E) P t K
noncomputable def cCap (c : Call) (P : Program) (L E : En) (K : AV → Bool) : Bool := args1 c fun x t => capV (opV x L E) P t K
noncomputable def cMax (c : Call) (P : Program) (L E : En) (K : AV → Bool) : Bool := args2 c fun x y => ints (opV x L E) (opV y L E) fun k a b => iLt a b fun r => Bool.rec (motive := fun _ => Bool) (K (.i k a)) (K (.i k b)) r
noncomputable def m3K (k : IntKind) (a : Int) (z : AV) (K : AV → Bool) : Bool := asI z fun k' c => andK (Nat.beq (kc k) (kc k')) (iLt c a fun r => Bool.rec (motive := fun _ => Bool) (K (.i k a)) (K (.i k c)) r)
noncomputable def cMin (c : Call) (P : Program) (L E : En) (K : AV → Bool) : Bool := match c.args.toList with
  | [x, y] => ints (opV x L E) (opV y L E) fun k a b => iLt b a fun r => Bool.rec (motive := fun _ => Bool) (K (.i k a)) (K (.i k b)) r
  | [x, y, z] => ints (opV x L E) (opV y L E) fun k a b => iLt b a fun r => Bool.rec (motive := fun _ => Bool) (m3K k a (opV z L E) K) (m3K k b (opV z L E) K) r
  | _ => false
theorem p_min3 {ats : Array TypeId} {x y z : Operand} {k : IntKind} {a b c : Int} (hop : o.op = .call { callee := .builtin .min, args := #[x, y, z], argTypes := ats }) (hx : ev e x = .int k a) (hy : ev e y = .int k b) (hz : ev e z = .int k c) :
    PRun P e o (.int k (if c < (if b < a then b else a) then c else (if b < a then b else a))) := by
  intro w
  refine run_builtin hop ?_
  have h3 : (#[x, y, z] : Array Operand).map (ev e) = #[ev e x, ev e y, ev e z] := by simp
  rw [h3, hx, hy, hz]
  simp [builtin, Builtin.min_, Builtin.min2]
noncomputable def builtinP (b : Builtin) : Call → Program → En → En → (AV → Bool) → Bool := Builtin.rec (motive := fun _ => (Call) → (Program) → (En) → (En) → (AV → Bool) → Bool) (fun _ _ _ _ _ => false) cCap (fun _ _ _ _ _ => false) (fun _ _ _ _ _ => false) (fun _ _ _ _ _ => false) (fun _ _ _ _ _ => false) (fun _ _ _ _ _ => false) (fun _ _ _ _ _ => false) cLen (fun _ _ _ _ _ => false) cMax cMin (fun _ _ _ _ _ => false) (fun _ _ _ _ _ => false) (fun _ _ _ _ _ => false) (fun _ _ _ _ _ => false) (fun _ _ _ _ _ => false) (fun _ _ _ _ _ => false) (fun _ _ _ _ _ => false) (fun _ _ _ _ _ => false) (fun _ _ _ _ _ => false) (fun _ _ _ _ _ => false) (fun _ _ _ _ _ => false) (fun _ _ _ _ _ => false) (fun _ _ _ _ _ => false) (fun _ _ _ _ _ => false) b
noncomputable def pCall (c : Call) (P : Program) (L E : En) (K : AV → Bool) : Bool := Callee.rec (motive := fun _ => Call → Program → En → En → (AV → Bool) → Bool) (fun _ _ _ _ _ _ => false) (fun _ _ _ _ _ _ _ => false) builtinP c.callee c P L E K
theorem p_cap {t el : TypeId} {a : Option Addr} {n cap : Nat} (hop : o.op = .call { callee := .builtin .cap, args := #[x], argTypes := #[t] }) (ht : P.underlying t = some (.slice el)) (hx : ev e x = .slice a n cap) : PRun P e o (.int .i64 cap) := by
  intro w
  refine run_builtin hop ?_
  rw [map1, hx]
  simp [builtin, Builtin.cap_, run_underlying' ht, goInt]
theorem pCall_sound {c : Call} (hop : o.op = .call c) (he : EnvRel m L E e) (h : pCall c P L E K = true) : PS P e o m K := by
  obtain ⟨callee, args, ats⟩ := c
  cases callee with
  | value f => cases h
  | invoke r n => cases h
  | builtin b =>
    have h : builtinP b ⟨.builtin b, args, ats⟩ P L E K = true := h
    cases b with
    | len =>
      obtain ⟨x, t, h1, h2, h3⟩ := args1_sound (c := ⟨.builtin .len, args, ats⟩) h
      have h1 : args = #[x] := h1
      have h2 : ats = #[t] := h2
      subst h1 h2
      unfold lenV at h3
      generalize hv : opV x L E = v at h3
      have hr := opR he hv
      cases v with
      | s l n =>
        obtain ⟨h4, h5⟩ := andK_sound h3
        have := p_len_s (P := P) hop (tyc7 h4) (opS he hv)
        rw [bytesOf_length] at this
        exact PS.mk1 (av := .i _ _) this rfl h5
      | sl id off n cap =>
        obtain ⟨h4, h5⟩ := andK_sound h3
        obtain ⟨el, ht⟩ := tyc3 h4
        obtain ⟨b, c, r1, r2, r3⟩ := hr
        exact PS.mk1 (av := .i _ _) (p_len hop ht r2) rfl h5
      | sv id off n k =>
        obtain ⟨h4, h5⟩ := andK_sound h3
        obtain ⟨el, ht⟩ := tyc3 h4
        obtain ⟨b, c, r1, r2, r3⟩ := hr
        exact PS.mk1 (av := .i _ _) (p_len hop ht r3) rfl h5
      | sn =>
        obtain ⟨h4, h5⟩ := andK_sound h3
        obtain ⟨el, ht⟩ := tyc3 h4
        exact PS.mk1 (av := .i _ _) (p_len hop ht hr) rfl h5
      | se =>
        obtain ⟨h4, h5⟩ := andK_sound h3
        obtain ⟨el, ht⟩ := tyc3 h4
        obtain ⟨a, c, r1⟩ := hr
        exact PS.mk1 (av := .i _ _) (p_len hop ht r1) rfl h5
      | _ => cases h3
    | cap =>
      obtain ⟨x, t, h1, h2, h3⟩ := args1_sound (c := ⟨.builtin .cap, args, ats⟩) h
      have h1 : args = #[x] := h1
      have h2 : ats = #[t] := h2
      subst h1 h2
      unfold capV at h3
      generalize hv : opV x L E = v at h3
      have hr := opR he hv
      cases v with
      | sn =>
        obtain ⟨h4, h5⟩ := andK_sound h3
        obtain ⟨el, ht⟩ := tyc3 h4
        exact PS.mk1 (av := .i .i64 (Int.ofNat 0)) (p_cap hop ht (show ev e x = .slice none 0 0 from hr)) rfl h5
      | sl id off n cap =>
        obtain ⟨h4, h5⟩ := andK_sound h3
        obtain ⟨el, ht⟩ := tyc3 h4
        obtain ⟨b, c, r1, r2, r3⟩ := hr
        exact PS.mk1 (av := .i _ _) (p_cap hop ht r2) rfl h5
      | _ => cases h3
    | max =>
      obtain ⟨x, y, h1, h2⟩ := args2_sound (c := ⟨.builtin .max, args, ats⟩) h
      have h1 : args = #[x, y] := h1
      subst h1
      obtain ⟨k, a, b, h3, h4, h5⟩ := ints_sound h2
      have h6 := iLt_eq _ _ _ h5
      have h7 := p_max (P := P) hop (opI he h3) (opI he h4)
      by_cases g : a < b
      · rw [decide_eq_true g] at h6
        rw [if_pos g] at h7
        exact PS.mk1 (av := .i k b) h7 rfl h6
      · rw [decide_eq_false g] at h6
        rw [if_neg g] at h7
        exact PS.mk1 (av := .i k a) h7 rfl h6
    | min =>
      have h : cMin ⟨.builtin .min, args, ats⟩ P L E K = true := h
      unfold cMin at h
      split at h
      · rename_i x y hl
        have h1 : args = #[x, y] := Array.ext' hl
        subst h1
        obtain ⟨k, a, b, h3, h4, h5⟩ := ints_sound h
        have h6 := iLt_eq _ _ _ h5
        have h7 := p_min (P := P) hop (opI he h3) (opI he h4)
        by_cases g : b < a
        · rw [decide_eq_true g] at h6
          rw [if_pos g] at h7
          exact PS.mk1 (av := .i k b) h7 rfl h6
        · rw [decide_eq_false g] at h6
          rw [if_neg g] at h7
          exact PS.mk1 (av := .i k a) h7 rfl h6
      · rename_i x y z hl
        have h1 : args = #[x, y, z] := Array.ext' hl
        subst h1
        obtain ⟨k, a, b, h3, h4, h5⟩ := ints_sound h
        have h6 := iLt_eq _ _ _ h5
        have fin : ∀ d : Int, d = (if b < a then b else a) → m3K k d (opV z L E) K = true → PS P e o m K := fun d hd hm => by
          obtain ⟨k', c, g1, g2⟩ := asI_sound hm
          obtain ⟨g3, g4⟩ := andK_sound g2
          have hk : k = k' := kc_inj g3
          subst hk
          have g5 := iLt_eq _ _ _ g4
          have h7 := p_min3 (P := P) hop (opI he h3) (opI he h4) (opI he g1)
          rw [← hd] at h7
          by_cases g : c < d
          · rw [decide_eq_true g] at g5
            rw [if_pos g] at h7
            exact PS.mk1 (av := .i k c) h7 rfl g5
          · rw [decide_eq_false g] at g5
            rw [if_neg g] at h7
            exact PS.mk1 (av := .i k d) h7 rfl g5
        by_cases g : b < a
        · rw [decide_eq_true g] at h6
          exact fin b (by rw [if_pos g]) h6
        · rw [decide_eq_false g] at h6
          exact fin a (by rw [if_neg g]) h6
      · cases h
    | _ => cases h
noncomputable def pureOp (op : Op) : Program → En → En → (AV → Bool) → Bool := Op.rec (motive := fun _ => (Program) → (En) → (En) → (AV → Bool) → Bool) pMove pMove pPick (fun _ _ _ _ _ => false) (fun _ _ _ _ _ _ => false) pBuild (fun _ _ _ _ _ _ _ => false) (fun _ _ _ _ _ _ _ _ => false) (fun _ _ _ _ _ _ => false) (fun _ _ _ _ _ _ _ => false) (fun _ _ _ _ _ => false) (fun _ _ _ _ _ => false) pNilCheck pBin pUn pConv (fun _ _ _ _ _ _ => false) pMakeIf pMakeFn (fun _ _ _ _ _ _ => false) (fun _ _ _ _ _ _ => false) (fun _ _ _ _ _ _ _ => false) pSlice pFieldAddr pField pIndexAddr pIndex (fun _ _ _ _ _ _ _ _ => false) (fun _ _ _ _ _ _ _ _ => false) (fun _ _ _ _ _ _ _ => false) (fun _ _ _ _ _ _ _ _ => false) (fun _ _ _ _ _ _ => false) (fun _ _ _ _ _ _ => false) (fun _ _ _ _ _ => false) pTypeAssert pExtract pCall (fun _ _ _ _ _ => false) (fun _ _ _ _ _ => false) (fun _ _ _ _ _ => false) (fun _ _ _ _ _ _ => false) (fun _ _ _ _ _ _ _ => false) (fun _ _ _ _ _ _ => false) op
theorem pureOp_sound (he : EnvRel m L E e) (h : pureOp o.op P L E K = true) : PS P e o m K := by
  generalize hop : o.op = op at h
  cases op with
  | move => exact pMove_sound hop he h
  | assign => exact pAssign_sound hop he h
  | pick => exact pPick_sound hop he h
  | nilCheck => exact pNilCheck_sound hop he h
  | binOp => exact pBin_sound hop he h
  | unOp => exact unV_sound hop he h
  | convert => exact pConv_sound hop he h
  | makeInterface => exact pMakeIf_sound hop he h
  | makeFunc => exact pMakeFn_sound hop he h
  | slice => exact pSlice_sound hop he h
  | fieldAddr => exact pFieldAddr_sound hop he h
  | field => exact pField_sound hop he h
  | indexAddr => exact pIndexAddr_sound hop he h
  | index => exact pIndex_sound hop he h
  | extract => exact pExtract_sound hop he h
  | build => exact pBuild_sound hop he h
  | typeAssert => exact pTypeAssert_sound hop he h
  | call => exact pCall_sound hop he h
  | _ => cases h
end
end Go.Evl
