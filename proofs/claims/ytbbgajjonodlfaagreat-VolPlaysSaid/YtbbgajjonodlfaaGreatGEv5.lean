/-
  The evaluator's quiet operations, one law each. It proves nothing of the program by itself.
-/
import Derived.Test.YtbbgajjonodlfaaGreatGEv3
import Derived.LaidEqlPtr
set_option linter.unusedVariables false
set_option linter.unusedSimpArgs false
namespace Go.Evl
open Go Go.Sl
section
variable {P : Program} {e : Env} {o : Oper} {m : Map} {L E : En} {K : AV → Bool}

noncomputable def pMove (x : Operand) (P : Program) (L E : En) (K : AV → Bool) : Bool := forceK (opV x L E) K
theorem pMove_sound {x : Operand} (hop : o.op = .move x) (he : EnvRel m L E e) (h : pMove x P L E K = true) : PS P e o m K :=
  ⟨_, _, p_move hop rfl, opV_rel he x, by rw [pMove, forceK_eq] at h; exact h⟩
theorem pAssign_sound {x : Operand} (hop : o.op = .assign x) (he : EnvRel m L E e) (h : pMove x P L E K = true) : PS P e o m K :=
  ⟨_, _, p_assign hop rfl, opV_rel he x, by rw [pMove, forceK_eq] at h; exact h⟩
theorem rel_b {b : Bool} {u : Value} {m : Map} (h : rel m (.b b) u) : u = .bool b := h
theorem opB {x : Operand} {b : Bool} (he : EnvRel m L E e) (h : opV x L E = .b b) : ev e x = .bool b := by have := opV_rel he x; rw [h] at this; exact this
theorem opI {x : Operand} {k : IntKind} {n : Int} (he : EnvRel m L E e) (h : opV x L E = .i k n) : ev e x = .int k n := by have := opV_rel he x; rw [h] at this; exact this
theorem opS {x : Operand} {l n : Nat} (he : EnvRel m L E e) (h : opV x L E = .s l n) : ev e x = strV (bytesOf l n) := by have := opV_rel he x; rw [h] at this; exact this
theorem opR {x : Operand} {a : AV} (he : EnvRel m L E e) (h : opV x L E = a) : rel m a (ev e x) := by have := opV_rel he x; rw [h] at this; exact this
noncomputable def pPick (c a b : Operand) (P : Program) (L E : En) (K : AV → Bool) : Bool := asB (opV c L E) fun x => Bool.rec (motive := fun _ => Bool) (forceK (opV b L E) K) (forceK (opV a L E) K) x
theorem pPick_sound {c a b : Operand} (hop : o.op = .pick c a b) (he : EnvRel m L E e) (h : pPick c a b P L E K = true) : PS P e o m K := by
  obtain ⟨x, h1, h2⟩ := asB_sound h
  cases x with
  | true =>
    have h2 : forceK (opV a L E) K = true := h2
    rw [forceK_eq] at h2; exact ⟨_, _, p_pick_t hop (opB he h1) rfl, opV_rel he a, h2⟩
  | false =>
    have h2 : forceK (opV b L E) K = true := h2
    rw [forceK_eq] at h2; exact ⟨_, _, p_pick_f hop (opB he h1) rfl, opV_rel he b, h2⟩
/-- The function behind a method of a dynamic type; its receiver is the value itself. -/
def mthB (P : Program) (t : TypeId) (name : String) : Option FuncId := match P.info? t with
  | none => none
  | some i => match i.methods.find? (·.name == name) with
    | none => none
    | some md => match md.path.toList, md.func, P.underlying t with
      | [], some (f, true), some (.pointer _) => some f
      | [], some (_, false), some (.pointer _) => none
      | [], some (f, false), some _ => some f
      | _, _, _ => none
theorem mthB_nil {P : Program} {w : World} {t : TypeId} {name : String} {f : FuncId} {v : Value} {fuel : Nat} (h : mthB P t name = some f) : (nilAhead (fuel + 1) t v name).run P w = .ok (some false) w := by
  unfold mthB at h
  split at h
  · cases h
  · rename_i i hi
    split at h
    · cases h
    · rename_i md hmd
      have hpath : ∀ {fp : FuncId × Bool}, md.path.toList = [] → md.func = some fp → (∃ d, P.underlying t = some d ∧ (match d, fp.2 with | .pointer _, true => True | .pointer _, false => False | _, true => False | _, false => True)) → (nilAhead (fuel + 1) t v name).run P w = .ok (some false) w := by
        rintro ⟨f, pr⟩ hp hf ⟨d, hd, hk⟩
        unfold nilAhead
        simp only [typeInfo, Sem.run_bind, run_program, Result.andThen_ok, hi, Sem.run_pure, hmd, hp, followBlind, hf]
        cases pr with
        | true => simp only [Sem.run_pure]
        | false =>
          simp only [Sem.run_bind, run_underlying' hd, Result.andThen_ok]
          cases d <;> first | exact hk.elim | simp only [Sem.run_pure]
      split at h
      · rename_i hp hf hu; cases h; exact hpath (fp := (f, true)) hp hf ⟨_, hu, trivial⟩
      · cases h
      · rename_i d hnot hp hf hu
        cases h
        refine hpath (fp := (f, false)) hp hf ⟨d, hu, ?_⟩
        cases d <;> first | trivial | (exact absurd rfl (hnot _))
      · cases h
/-- A method value whose receiver is told. -/
noncomputable def mthChk (P : Program) (f : Fn) (caps : AV) : Bool := match f, caps with
  | .func _, _ => true
  | .method name, .cons (.ifc t _) .nil => (mthB P t name).isSome
  | _, _ => false
noncomputable def nilChk (P : Program) (v : AV) (K : AV → Bool) : Bool := AV.rec (motive := fun _ => (AV → Bool) → Bool) (fun _ => false) (fun _ _ => false) (fun _ _ _ => false) (fun _ _ _ => false) (fun _ => false) (fun i o K => K (.p i o)) (fun _ => false) (fun _ => false) (fun _ _ _ _ _ => false) (fun _ _ _ _ _ => false) (fun _ => false) (fun _ _ => false) (fun f c _ K => Bool.rec (motive := fun _ => Bool) false (K (.fn f c)) (mthChk P f c)) (fun _ => false) (fun _ => false) (fun t v _ K => K (.ifc t v)) (fun _ => false) (fun _ _ _ _ _ => false) (fun _ _ _ => false) (fun _ _ _ => false) v K
noncomputable def pNilCheck (x : Operand) (P : Program) (L E : En) (K : AV → Bool) : Bool := nilChk P (opV x L E) K
theorem pNilCheck_sound {x : Operand} (hop : o.op = .nilCheck x) (he : EnvRel m L E e) (h : pNilCheck x P L E K = true) : PS P e o m K := by
  unfold pNilCheck at h
  generalize hv : opV x L E = v at h
  have hr := opR he hv
  cases v with
  | p id off =>
    obtain ⟨b, c, h1, h2⟩ := hr
    exact ⟨.p id off, _, p_nilCheck hop h2, ⟨b, c, h1, rfl⟩, h⟩
  | ifc t v =>
    obtain ⟨u, h1, h2⟩ := hr
    exact ⟨.ifc t v, _, fun w => by unfold execOp; rw [hop]; simp only [h2]; rfl, ⟨u, h1, rfl⟩, h⟩
  | fn f caps =>
    have h : Bool.rec (motive := fun _ => Bool) false (K (.fn f caps)) (mthChk P f caps) = true := h
    cases hm : mthChk P f caps with
    | false => rw [hm] at h; cases h
    | true =>
      rw [hm] at h
      refine ⟨.fn f caps, _, fun w => ?_, hr, h⟩
      obtain ⟨vs, g, r1, r2, r3⟩ := hr
      unfold mthChk at hm
      split at hm
      · have r2 : g = _ := r2
        subst r2
        unfold execOp; rw [hop]; simp only [r3]; rfl
      · rename_i name t w' hx'
        obtain ⟨u1, us, ⟨u, r1, rfl⟩, hnil, rfl⟩ := r1
        have r2 : g = _ := r2
        subst r2
        have hnil : us = [] := hnil
        subst hnil
        obtain ⟨f', hf'⟩ := Option.isSome_iff_exists.mp hm
        have hfu : ∃ k, P.types.size + Made.depth = k + 1 := ⟨P.types.size + 99, rfl⟩
        obtain ⟨k, hk⟩ := hfu
        have r3 : ev e x = .func (.method name) #[.iface t u] #[] := r3
        have e1 : (#[Value.iface t u] : Array Value)[0]? = some (.iface t u) := rfl
        unfold execOp; rw [hop]
        simp only [r3, e1, Sem.run_bind, run_program, Result.andThen_ok, hk, mthB_nil hf']
        rfl
      · cases hm
  | _ => cases h
theorem PS.mk1 {av : AV} {v : Value} (h1 : PRun P e o v) (h2 : rel m av v) (h3 : K av = true) : PS P e o m K := ⟨av, v, h1, h2, h3⟩

/-! ### Two operands -/
variable {xT yT : TypeId} {x y : Operand}
section ints
variable {k : IntKind} {a b : Int}
theorem bAnd_sound (hop : o.op = .binOp .and xT x y yT) (hx : ev e x = .int k a) (hy : ev e y = .int k b) (h : iBit Nat.land k a b K = true) : PS P e o m K :=
  PS.mk1 (av := .i k _) (p_and hop hx hy) rfl (iBit_eq (G := fun _ x y => x &&& y) (fun _ x y => BitVec.toNat_and x y) k a b K h)
theorem bOr_sound (hop : o.op = .binOp .or xT x y yT) (hx : ev e x = .int k a) (hy : ev e y = .int k b) (h : iBit Nat.lor k a b K = true) : PS P e o m K :=
  PS.mk1 (av := .i k _) (p_or hop hx hy) rfl (iBit_eq (G := fun _ x y => x ||| y) (fun _ x y => BitVec.toNat_or x y) k a b K h)
theorem bXor_sound (hop : o.op = .binOp .xor xT x y yT) (hx : ev e x = .int k a) (hy : ev e y = .int k b) (h : iBit Nat.xor k a b K = true) : PS P e o m K :=
  PS.mk1 (av := .i k _) (p_xor hop hx hy) rfl (iBit_eq (G := fun _ x y => x ^^^ y) (fun _ x y => BitVec.toNat_xor x y) k a b K h)
end ints
noncomputable def bAdd (P : Program) (_xT : TypeId) (_cy : Bool) (x y : AV) (K : AV → Bool) : Bool := AV.rec (motive := fun _ => (AV) → (AV → Bool) → Bool) (fun _ _ => false) (fun _ _ _ => false) (fun k a y K => asI y fun k' b => andK (Nat.beq (kc k) (kc k')) (iAdd k a b K)) (fun l n y K => asS y fun l' n' => andK (Nat.ble (Nat.add l l') 9223372036854775807) (natK (Nat.add l l') fun L => natK (Nat.add (Nat.mod n (Nat.pow 256 l)) (Nat.mul (Nat.pow 256 l) n')) fun N => K (.s L N))) (fun _ _ => false) (fun _ _ _ _ => false) (fun _ _ => false) (fun _ _ => false) (fun _ _ _ _ _ _ => false) (fun _ _ _ _ _ _ => false) (fun _ _ => false) (fun _ _ _ => false) (fun _ _ _ _ _ => false) (fun _ _ => false) (fun _ _ => false) (fun _ _ _ _ _ => false) (fun _ _ => false) (fun _ _ _ _ _ _ => false) (fun _ _ _ _ => false) (fun _ _ _ _ => false) x y K
noncomputable def bInt (F : IntKind → Int → Int → (AV → Bool) → Bool) (P : Program) (_xT : TypeId) (_cy : Bool) (x y : AV) (K : AV → Bool) : Bool := ints x y fun k a b => F k a b K
noncomputable def bShift (F : IntKind → Int → Int → (AV → Bool) → Bool) (P : Program) (_xT : TypeId) (_cy : Bool) (x y : AV) (K : AV → Bool) : Bool := asI x fun k a => asI y fun _ b => F k a b K
/-- Of which kind a type is. -/
def tyc (P : Program) (t : TypeId) : Nat := match P.underlying t with
  | some .bool => 1
  | some (.pointer _) => 2
  | some (.slice _) => 3
  | some (.map _ _) => 4
  | some (.func _ _ _) => 5
  | some (.interface _) => 6
  | some .string => 7
  | some (.array _ _) => 8
  | _ => 0
theorem tyc1 {P : Program} {t : TypeId} (h : Nat.beq (tyc P t) 1 = true) : P.underlying t = some .bool := by
  have h := Nat.eq_of_beq_eq_true h
  unfold tyc at h; split at h <;> first | assumption | cases h
theorem tyc2 {P : Program} {t : TypeId} (h : Nat.beq (tyc P t) 2 = true) : ∃ el, P.underlying t = some (.pointer el) := by
  have h := Nat.eq_of_beq_eq_true h
  unfold tyc at h; split at h <;> first | exact ⟨_, by assumption⟩ | cases h
theorem tyc3 {P : Program} {t : TypeId} (h : Nat.beq (tyc P t) 3 = true) : ∃ el, P.underlying t = some (.slice el) := by
  have h := Nat.eq_of_beq_eq_true h
  unfold tyc at h; split at h <;> first | exact ⟨_, by assumption⟩ | cases h
theorem tyc4 {P : Program} {t : TypeId} (h : Nat.beq (tyc P t) 4 = true) : ∃ a b, P.underlying t = some (.map a b) := by
  have h := Nat.eq_of_beq_eq_true h
  unfold tyc at h; split at h <;> first | exact ⟨_, _, by assumption⟩ | cases h
theorem tyc5 {P : Program} {t : TypeId} (h : Nat.beq (tyc P t) 5 = true) : ∃ a b c, P.underlying t = some (.func a b c) := by
  have h := Nat.eq_of_beq_eq_true h
  unfold tyc at h; split at h <;> first | exact ⟨_, _, _, by assumption⟩ | cases h
theorem tyc6 {P : Program} {t : TypeId} (h : Nat.beq (tyc P t) 6 = true) : ∃ a, P.underlying t = some (.interface a) := by
  have h := Nat.eq_of_beq_eq_true h
  unfold tyc at h; split at h <;> first | exact ⟨_, by assumption⟩ | cases h
theorem tyc7 {P : Program} {t : TypeId} (h : Nat.beq (tyc P t) 7 = true) : P.underlying t = some .string := by
  have h := Nat.eq_of_beq_eq_true h
  unfold tyc at h; split at h <;> first | assumption | cases h
noncomputable def isPn (v : AV) (x : Bool) : Bool := AV.rec (motive := fun _ => (Bool) → Bool) (fun _ => false) (fun _ _ => false) (fun _ _ _ => false) (fun _ _ _ => false) (fun  x => x) (fun _ _ _ => false) (fun _ => false) (fun _ => false) (fun _ _ _ _ _ => false) (fun _ _ _ _ _ => false) (fun _ => false) (fun _ _ => false) (fun _ _ _ _ => false) (fun _ => false) (fun _ => false) (fun _ _ _ _ => false) (fun _ => false) (fun _ _ _ _ _ => false) (fun _ _ _ => false) (fun _ _ _ => false) v x
theorem isPn_sound {v : AV} {x : Bool} (h : isPn v x = true) : v = .pn ∧ x = true := by cases v <;> first | exact ⟨rfl, h⟩ | cases h
noncomputable def isSn (v : AV) (x : Bool) : Bool := AV.rec (motive := fun _ => (Bool) → Bool) (fun _ => false) (fun _ _ => false) (fun _ _ _ => false) (fun _ _ _ => false) (fun _ => false) (fun _ _ _ => false) (fun  x => x) (fun _ => false) (fun _ _ _ _ _ => false) (fun _ _ _ _ _ => false) (fun _ => false) (fun _ _ => false) (fun _ _ _ _ => false) (fun _ => false) (fun _ => false) (fun _ _ _ _ => false) (fun _ => false) (fun _ _ _ _ _ => false) (fun _ _ _ => false) (fun _ _ _ => false) v x
theorem isSn_sound {v : AV} {x : Bool} (h : isSn v x = true) : v = .sn ∧ x = true := by cases v <;> first | exact ⟨rfl, h⟩ | cases h
noncomputable def isIn (v : AV) (x : Bool) : Bool := AV.rec (motive := fun _ => (Bool) → Bool) (fun _ => false) (fun _ _ => false) (fun _ _ _ => false) (fun _ _ _ => false) (fun _ => false) (fun _ _ _ => false) (fun _ => false) (fun _ => false) (fun _ _ _ _ _ => false) (fun _ _ _ _ _ => false) (fun _ => false) (fun _ _ => false) (fun _ _ _ _ => false) (fun _ => false) (fun  x => x) (fun _ _ _ _ => false) (fun _ => false) (fun _ _ _ _ _ => false) (fun _ _ _ => false) (fun _ _ _ => false) v x
theorem isIn_sound {v : AV} {x : Bool} (h : isIn v x = true) : v = .inil ∧ x = true := by cases v <;> first | exact ⟨rfl, h⟩ | cases h
noncomputable def isFn (v : AV) (x : Bool) : Bool := AV.rec (motive := fun _ => (Bool) → Bool) (fun _ => false) (fun _ _ => false) (fun _ _ _ => false) (fun _ _ _ => false) (fun _ => false) (fun _ _ _ => false) (fun _ => false) (fun _ => false) (fun _ _ _ _ _ => false) (fun _ _ _ _ _ => false) (fun _ => false) (fun _ _ => false) (fun _ _ _ _ => false) (fun  x => x) (fun _ => false) (fun _ _ _ _ => false) (fun _ => false) (fun _ _ _ _ _ => false) (fun _ _ _ => false) (fun _ _ _ => false) v x
theorem isFn_sound {v : AV} {x : Bool} (h : isFn v x = true) : v = .fnil ∧ x = true := by cases v <;> first | exact ⟨rfl, h⟩ | cases h
noncomputable def isMn (v : AV) (x : Bool) : Bool := AV.rec (motive := fun _ => (Bool) → Bool) (fun _ => false) (fun _ _ => false) (fun _ _ _ => false) (fun _ _ _ => false) (fun _ => false) (fun _ _ _ => false) (fun _ => false) (fun _ => false) (fun _ _ _ _ _ => false) (fun _ _ _ _ _ => false) (fun  x => x) (fun _ _ => false) (fun _ _ _ _ => false) (fun _ => false) (fun _ => false) (fun _ _ _ _ => false) (fun _ => false) (fun _ _ _ _ _ => false) (fun _ _ _ => false) (fun _ _ _ => false) v x
theorem isMn_sound {v : AV} {x : Bool} (h : isMn v x = true) : v = .mn ∧ x = true := by cases v <;> first | exact ⟨rfl, h⟩ | cases h

/-! Structs of plain cells -/
def plV : AV → Option Value
  | .b x => some (.bool x)
  | .i k n => some (.int k n)
  | .s l n => some (strV (bytesOf l n))
  | _ => none
def plL : AV → Option (List Value)
  | .nil => some []
  | .cons h t => match plV h, plL t with
    | some u, some us => some (u :: us)
    | _, _ => none
  | _ => none
theorem plV_rel {m : Map} {v : AV} {u u' : Value} (h : plV v = some u) (hr : rel m v u') : u' = u := by
  cases v <;> simp only [plV, Option.some.injEq] at h <;> first | (subst h; exact hr) | cases h
theorem plL_rel {m : Map} : ∀ {l : AV} {vs vs' : List Value}, plL l = some vs → relL m l vs' → vs' = vs := by
  intro l
  induction l with
  | nil => intro vs vs' h hr; simp only [plL, Option.some.injEq] at h; subst h; exact hr
  | cons a t _ ih =>
    intro vs vs' h hr
    simp only [plL] at h
    split at h
    · rename_i u us h1 h2
      simp only [Option.some.injEq] at h
      subst h
      obtain ⟨x, xs, h3, h4, rfl⟩ := hr
      rw [plV_rel h1 h3, ih h2 h4]
    · cases h
  | _ => intro vs vs' h hr; cases h
def eqV : AV → AV → Bool
  | .b x, .b y => x == y
  | .i k n, .i k' n' => Nat.beq (kc' k) (kc' k') && decide (n = n')
  | .s l n, .s l' n' => strEqD l n l' n'
  | _, _ => false
where
  kc' : IntKind → Nat | .i8 => 0 | .i16 => 1 | .i32 => 2 | .i64 => 3 | .u8 => 4 | .u16 => 5 | .u32 => 6 | .u64 => 7
  strEqD (l n l' n' : Nat) : Bool := Nat.beq l l' && Nat.beq (Nat.mod n (Nat.pow 256 l)) (Nat.mod n' (Nat.pow 256 l))
def eqL : AV → AV → Bool
  | .nil, .nil => true
  | .cons a t, .cons a' t' => eqV a a' && eqL t t'
  | _, _ => false
theorem strEqD_eq (l n l' n' : Nat) : eqV.strEqD l n l' n' = decide (bytesOf l n = bytesOf l' n') := by
  rw [← strEq_eq]
  unfold eqV.strEqD strEq
  cases Nat.beq l l' <;> rfl
theorem kc'_eq {k k' : IntKind} : Nat.beq (eqV.kc' k) (eqV.kc' k') = decide (k = k') := by cases k <;> cases k' <;> rfl
theorem eqV_eq {a b : AV} {u v : Value} (h : plV a = some u) (h' : plV b = some v) : eqV a b = true ↔ u = v := by
  cases a with
  | b x => cases b with
    | b y => cases h; cases h'; simp [eqV]
    | i k n => cases h; cases h'; simp [eqV]
    | s l n => cases h; cases h'; simp [eqV]
    | _ => cases h'
  | i k n => cases b with
    | b y => cases h; cases h'; simp [eqV]
    | i k n => cases h; cases h'; simp only [eqV, kc'_eq, Bool.and_eq_true, decide_eq_true_eq, Value.int.injEq]
    | s l n => cases h; cases h'; simp [eqV]
    | _ => cases h'
  | s l n => cases b with
    | b y => cases h; cases h'; simp [eqV]
    | i k n => cases h; cases h'; simp [eqV]
    | s l n =>
      cases h; cases h'
      simp only [eqV, strEqD_eq, decide_eq_true_eq]
      constructor
      · intro g; rw [g]
      · intro g
        have g2 := Value.string.inj g
        have g3 := congrArg (fun b : ByteArray => b.data.toList) g2
        simpa using g3
    | _ => cases h'
  | _ => cases h
theorem eqL_eq : ∀ {a b : AV} {us vs : List Value}, plL a = some us → plL b = some vs → (eqL a b = true ↔ us = vs) := by
  intro a
  induction a with
  | nil =>
    intro b us vs h h'
    simp only [plL, Option.some.injEq] at h
    subst h
    cases b with
    | nil => simp only [plL, Option.some.injEq] at h'; subst h'; simp [eqL]
    | cons a t =>
      simp only [plL] at h'
      split at h'
      · simp only [Option.some.injEq] at h'; subst h'; simp [eqL]
      · cases h'
    | _ => cases h'
  | cons x t _ ih =>
    intro b us vs h h'
    simp only [plL] at h
    split at h
    · rename_i u us' h1 h2
      simp only [Option.some.injEq] at h
      subst h
      cases b with
      | nil => simp only [plL, Option.some.injEq] at h'; subst h'; simp [eqL]
      | cons y t' =>
        simp only [plL] at h'
        split at h'
        · rename_i v vs' h3 h4
          simp only [Option.some.injEq] at h'
          subst h'
          simp only [eqL, Bool.and_eq_true, eqV_eq h1 h3, ih h2 h4, List.cons.injEq]
        · cases h'
      | _ => cases h'
    · cases h
  | _ => intro b us vs h; cases h
def keyTyB (P : Program) (t : TypeId) : Bool := P.keyTypeAt 9 t && (P.tiled 9 t && ((match P.underlying t with | some (.array _ _) | some (.struct _) => true | _ => false) && !(P.eqGuardType P.depth t)))
theorem keyTyB_sound {P : Program} {t : TypeId} (h : keyTyB P t = true) : KeyTy P t := by
  unfold keyTyB at h
  simp only [Bool.and_eq_true, Bool.not_eq_true'] at h
  exact ⟨h.1, h.2.1, h.2.2.1, h.2.2.2⟩
def plainB (P : Program) (t : TypeId) (l : AV) : Bool := match plL l with
  | none => false
  | some vs => (P.keyLits 9 t vs).isSome
theorem plainB_sound {P : Program} {t : TypeId} {l : AV} (h : plainB P t l = true) : ∃ vs, plL l = some vs ∧ Plain P t vs := by
  unfold plainB at h
  split at h
  · cases h
  · rename_i vs hv
    obtain ⟨L, hL⟩ := Option.isSome_iff_exists.1 h
    exact ⟨vs, hv, 9, L, hL⟩
def ptInfo (P : Program) (t : TypeId) : Bool := match P.underlying t with | some (.pointer u) => (P.info? u).isSome | _ => false
/-- A pointer that is nil, or the same. -/
noncomputable def ptK (P : Program) (t : TypeId) (i o : Nat) (y : AV) (a b : Bool) : Bool := AV.rec (motive := fun _ => Bool) false (fun _ => false) (fun _ _ => false) (fun _ _ => false) a (fun i' o' => andK (Nat.beq i i') (andK (Nat.beq o o') (andK (ptInfo P t) b))) false false (fun _ _ _ _ => false) (fun _ _ _ _ => false) false (fun _ => false) (fun _ _ _ => false) false false (fun _ _ _ => false) false (fun _ _ _ _ => false) (fun _ _ => false) (fun _ _ => false) y
theorem ptK_sound {P : Program} {t : TypeId} {i o : Nat} {y : AV} {a b : Bool} (h : ptK P t i o y a b = true) : (y = .pn ∧ a = true) ∨ (y = .p i o ∧ b = true ∧ ∃ el j, P.underlying t = some (.pointer el) ∧ P.info? el = some j) := by
  cases y with
  | pn => exact .inl ⟨rfl, h⟩
  | p i' o' =>
    obtain ⟨h1, h2⟩ := andK_sound h
    obtain ⟨h3, h4⟩ := andK_sound h2
    obtain ⟨h5, h6⟩ := andK_sound h4
    have h1 := Nat.eq_of_beq_eq_true h1
    have h3 := Nat.eq_of_beq_eq_true h3
    subst h1 h3
    unfold ptInfo at h5
    split at h5
    · obtain ⟨j, hj⟩ := Option.isSome_iff_exists.1 h5
      exact .inr ⟨rfl, h6, _, j, by assumption, hj⟩
    · cases h5
  | _ => cases h
theorem eq_ptr_same {P : Program} {t el : TypeId} {j : TypeInfo} {a : Addr} {w : World} (ht : P.underlying t = some (.pointer el)) (hj : P.info? el = some j) : (Op.equal t (.pointer (some a)) (.pointer (some a))).run P w = .ok true w := by
  have h : ∀ d : Nat, (Op.equalIn (d + 1) t (.pointer (some a)) (.pointer (some a))).run P w = .ok true w := fun d => by
    simp [Op.equalIn, run_underlying ht, sizeOf, typeInfo, hj, run_sameAddr_same]
  exact h 9999
noncomputable def bEq (P : Program) (xT : TypeId) (cy : Bool) (x y : AV) (K : AV → Bool) : Bool := AV.rec (motive := fun _ => (Program) → (TypeId) → (Bool) → (AV) → (AV → Bool) → Bool) (fun _ _ _ _ _ => false) (fun a P xT cy y K => andK (Nat.beq (tyc P xT) 1) (asB y fun b => boolK (Bool.rec (motive := fun _ => Bool) true false (Bool.xor a b)) K)) (fun k a P xT cy y K => asI y fun k' b => andK (Nat.beq (kc k) (kc k')) (iEq a b (fun r => boolK r K))) (fun l n P xT cy y K => asS y fun l' n' => boolK (strEq l n l' n') K) (fun  P xT cy y K => andK (Nat.beq (tyc P xT) 2) (isPn y (K (.b true)))) (fun i o P xT cy y K => andK (Nat.beq (tyc P xT) 2) (ptK P xT i o y (K (.b false)) (K (.b true)))) (fun  P xT cy y K => andK (Nat.beq (tyc P xT) 3) (isSn y (K (.b true)))) (fun _ _ _ _ _ => false) (fun i o n c P xT cy y K => andK (Nat.beq (tyc P xT) 3) (isSn y (K (.b false)))) (fun i o n k P xT cy y K => andK (Nat.beq (tyc P xT) 3) (isSn y (K (.b false)))) (fun  P xT cy y K => andK (Nat.beq (tyc P xT) 4) (isMn y (K (.b true)))) (fun i P xT cy y K => andK (Nat.beq (tyc P xT) 4) (isMn y (K (.b false)))) (fun g c _ P xT cy y K => andK (Nat.beq (tyc P xT) 5) (isFn y (K (.b false)))) (fun  P xT cy y K => andK (Nat.beq (tyc P xT) 5) (isFn y (K (.b true)))) (fun  P xT cy y K => andK cy (andK (Nat.beq (tyc P xT) 6) (isIn y (K (.b true))))) (fun t v _ P xT cy y K => andK cy (andK (Nat.beq (tyc P xT) 6) (isIn y (K (.b false))))) (fun _ _ _ _ _ => false) (fun _ _ _ _ _ _ _ _ _ => false) (fun l _ P xT cy y K => asAgg y fun l' => andK (keyTyB P xT) (andK (plainB P xT l) (andK (plainB P xT l') (boolK (eqL l l') K)))) (fun _ _ _ _ _ _ _ => false) x P xT cy y K
noncomputable def bNe (P : Program) (xT : TypeId) (cy : Bool) (x y : AV) (K : AV → Bool) : Bool := AV.rec (motive := fun _ => (Program) → (TypeId) → (Bool) → (AV) → (AV → Bool) → Bool) (fun _ _ _ _ _ => false) (fun a P xT cy y K => andK (Nat.beq (tyc P xT) 1) (asB y fun b => boolK (Bool.xor a b) K)) (fun k a P xT cy y K => asI y fun k' b => andK (Nat.beq (kc k) (kc k')) (iEq a b (fun r => boolK (Bool.rec (motive := fun _ => Bool) true false r) K))) (fun l n P xT cy y K => asS y fun l' n' => boolK (Bool.rec (motive := fun _ => Bool) true false (strEq l n l' n')) K) (fun  P xT cy y K => andK (Nat.beq (tyc P xT) 2) (isPn y (K (.b false)))) (fun i o P xT cy y K => andK (Nat.beq (tyc P xT) 2) (ptK P xT i o y (K (.b true)) (K (.b false)))) (fun  P xT cy y K => andK (Nat.beq (tyc P xT) 3) (isSn y (K (.b false)))) (fun _ _ _ _ _ => false) (fun i o n c P xT cy y K => andK (Nat.beq (tyc P xT) 3) (isSn y (K (.b true)))) (fun i o n k P xT cy y K => andK (Nat.beq (tyc P xT) 3) (isSn y (K (.b true)))) (fun  P xT cy y K => andK (Nat.beq (tyc P xT) 4) (isMn y (K (.b false)))) (fun i P xT cy y K => andK (Nat.beq (tyc P xT) 4) (isMn y (K (.b true)))) (fun g c _ P xT cy y K => andK (Nat.beq (tyc P xT) 5) (isFn y (K (.b true)))) (fun  P xT cy y K => andK (Nat.beq (tyc P xT) 5) (isFn y (K (.b false)))) (fun  P xT cy y K => andK cy (andK (Nat.beq (tyc P xT) 6) (isIn y (K (.b false))))) (fun t v _ P xT cy y K => andK cy (andK (Nat.beq (tyc P xT) 6) (isIn y (K (.b true))))) (fun _ _ _ _ _ => false) (fun _ _ _ _ _ _ _ _ _ => false) (fun l _ P xT cy y K => asAgg y fun l' => andK (keyTyB P xT) (andK (plainB P xT l) (andK (plainB P xT l') (boolK (Bool.rec (motive := fun _ => Bool) true false (eqL l l')) K)))) (fun _ _ _ _ _ _ _ => false) x P xT cy y K

theorem bAdd_sound {cy : Bool} (hop : o.op = .binOp .add xT x y yT) (he : EnvRel m L E e) (h : bAdd P xT cy (opV x L E) (opV y L E) K = true) : PS P e o m K := by
  unfold bAdd at h
  generalize hv : opV x L E = v at h
  cases v with
  | i k a =>
    obtain ⟨k', b, h1, h2⟩ := asI_sound (v := opV y L E) h
    obtain ⟨h3, h4⟩ := andK_sound h2
    have := kc_inj h3
    subst this
    exact PS.mk1 (av := .i _ _) (p_add_w hop (opI he hv) (opI he h1)) rfl (iAdd_eq _ _ _ _ h4)
  | s l n =>
    obtain ⟨l', n', h1, h2⟩ := asS_sound (v := opV y L E) h
    obtain ⟨h3, h4⟩ := andK_sound h2
    rw [natK_eq, natK_eq] at h4
    refine PS.mk1 (av := .s _ _) (p_sadd hop (opS he hv) (opS he h1) ?_) ?_ h4
    · rw [bytesOf_length, bytesOf_length]; exact Nat.le_of_ble_eq_true h3
    · show strV _ = strV _
      rw [bytesOf_append]
      rfl
  | _ => cases h
theorem not_rec (r : Bool) : Bool.rec (motive := fun _ => Bool) true false r = !r := by cases r <;> rfl

theorem prun_eql {u v : Value} {r : Bool} (hop : o.op = .binOp .eql xT x y yT) (hx : ev e x = u) (hy : ev e y = v) (hn : ∀ k a, u ≠ .int k a) (hs : ∀ a, u ≠ .string a) (hf : ∀ k a, u ≠ .float k a) (hc : ∀ k a b, u ≠ .complex k a b)
    (hg : ∀ w, (eqGuard .eql xT x y u v).run P w = .ok () w) (hb : ∀ w, (Op.equal xT u v).run P w = .ok r w) : PRun P e o (.bool r) := by
  intro w; unfold execOp; rw [hop]; simp only [hx, hy]
  have h2 : (binOp .eql xT u v).run P w = .ok (.bool r) w := by
    unfold binOp
    cases u <;> first | (exact absurd rfl (hn _ _)) | (exact absurd rfl (hs _)) | (exact absurd rfl (hf _ _)) | (exact absurd rfl (hc _ _ _)) | simp only [Sem.run_bind, hb, Result.andThen_ok, Sem.run_pure]
  simp only [Sem.run_bind, hg, Result.andThen_ok, h2, Sem.run_pure]
theorem prun_neq {u v : Value} {r : Bool} (hop : o.op = .binOp .neq xT x y yT) (hx : ev e x = u) (hy : ev e y = v) (hn : ∀ k a, u ≠ .int k a) (hs : ∀ a, u ≠ .string a) (hf : ∀ k a, u ≠ .float k a) (hc : ∀ k a b, u ≠ .complex k a b)
    (hg : ∀ w, (eqGuard .neq xT x y u v).run P w = .ok () w) (hb : ∀ w, (Op.equal xT u v).run P w = .ok r w) : PRun P e o (.bool (!r)) := by
  intro w; unfold execOp; rw [hop]; simp only [hx, hy]
  have h2 : (binOp .neq xT u v).run P w = .ok (.bool (!r)) w := by
    unfold binOp
    cases u <;> first | (exact absurd rfl (hn _ _)) | (exact absurd rfl (hs _)) | (exact absurd rfl (hf _ _)) | (exact absurd rfl (hc _ _ _)) | simp only [Sem.run_bind, hb, Result.andThen_ok, Sem.run_pure]
  simp only [Sem.run_bind, hg, Result.andThen_ok, h2, Sem.run_pure]
theorem eqn {n : Nat} {t : TypeId} {x y : Value} {w : World} {r : Result Bool} (h : (Op.equalIn 10000 t x y).run P w = r) : (Op.equal t x y).run P w = r := h
section eqs
variable {w : World} {t : TypeId}
theorem eq_bool {a b : Bool} (ht : P.underlying t = some .bool) : (Op.equal t (.bool a) (.bool b)).run P w = .ok (a == b) w := by
  apply eqn (n := 0)
  unfold Op.equalIn
  simp only [Sem.run_bind, run_underlying' ht, Result.andThen_ok, Sem.run_pure]
theorem eq_ptr_nil {el : TypeId} {a : Option Addr} (ht : P.underlying t = some (.pointer el)) : (Op.equal t (.pointer a) (.pointer none)).run P w = .ok a.isNone w := by
  apply eqn (n := 0)
  unfold Op.equalIn
  cases a <;> simp only [Sem.run_bind, run_underlying' ht, Result.andThen_ok, Sem.run_pure, Option.isNone]
theorem eq_sl_nil {el : TypeId} {a : Option Addr} {n c : Nat} (ht : P.underlying t = some (.slice el)) : (Op.equal t (.slice a n c) (.slice none 0 0)).run P w = .ok a.isNone w := by
  apply eqn (n := 0)
  unfold Op.equalIn
  cases a <;> simp only [Sem.run_bind, run_underlying' ht, Result.andThen_ok, Sem.run_pure, Option.isNone]
theorem eq_map_nil {k el : TypeId} {a : Option Nat} (ht : P.underlying t = some (.map k el)) : (Op.equal t (.map a) (.map none)).run P w = .ok a.isNone w := by
  apply eqn (n := 0)
  unfold Op.equalIn
  cases a <;> simp only [Sem.run_bind, run_underlying' ht, Result.andThen_ok, Sem.run_pure, Option.isNone]
theorem eq_fn_nil {ps rs : Array TypeId} {b : Bool} (ht : P.underlying t = some (.func ps rs b)) : (Op.equal t .nilFunc .nilFunc).run P w = .ok true w := by
  apply eqn (n := 0)
  unfold Op.equalIn
  simp only [Sem.run_bind, run_underlying' ht, Result.andThen_ok, Sem.run_pure]
theorem eq_fn_fn {ps rs : Array TypeId} {b : Bool} {f : Fn} {x y : Array Value} (ht : P.underlying t = some (.func ps rs b)) : (Op.equal t (.func f x y) .nilFunc).run P w = .ok false w := by
  apply eqn (n := 0)
  unfold Op.equalIn
  simp only [Sem.run_bind, run_underlying' ht, Result.andThen_ok, Sem.run_pure]
theorem eq_if_nil {ms : Array (String × TypeId)} (ht : P.underlying t = some (.interface ms)) : (Op.equal t .nilIface .nilIface).run P w = .ok true w := by
  apply eqn (n := 0)
  unfold Op.equalIn
  simp only [Sem.run_bind, run_underlying' ht, Result.andThen_ok, Sem.run_pure]
theorem eq_if_if {ms : Array (String × TypeId)} {d : TypeId} {v : Value} (ht : P.underlying t = some (.interface ms)) : (Op.equal t (.iface d v) .nilIface).run P w = .ok false w := by
  apply eqn (n := 0)
  unfold Op.equalIn
  simp only [Sem.run_bind, run_underlying' ht, Result.andThen_ok, Sem.run_pure]
end eqs
def isCo : Operand → Bool
  | .const _ => true
  | _ => false
theorem guard_nil {op : BinOp} {t : TypeId} {x y : Operand} {w : World} (h : isCo y = true) : (eqGuard op t x y .nilIface .nilIface).run P w = .ok () w := by
  unfold eqGuard
  cases y with
  | const v => cases op <;> cases x <;> rfl
  | _ => cases h
theorem eqDone {r : Bool} (h1 : PRun P e o (.bool r)) (h2 : K (.b r) = true) : PS P e o m K := PS.mk1 (av := .b r) h1 rfl h2
theorem bEq_sound (hop : o.op = .binOp .eql xT x y yT) (he : EnvRel m L E e) (h : bEq P xT (isCo y) (opV x L E) (opV y L E) K = true) : PS P e o m K := by
  unfold bEq at h
  generalize hv : opV x L E = v at h
  have hr := opR he hv
  have nn0 : ∀ {u : Value}, (∀ k a, u ≠ .int k a) → True := fun _ => trivial
  cases v with
  | i k a =>
    obtain ⟨k', b, h1, h2⟩ := asI_sound (v := opV y L E) h
    obtain ⟨h3, h4⟩ := andK_sound h2
    have := kc_inj h3
    subst this
    have h5 := iEq_eq _ _ _ h4
    rw [boolK_eq] at h5
    exact eqDone (p_eql hop (opI he hv) (opI he h1)) h5
  | s l n =>
    obtain ⟨l', n', h1, h2⟩ := asS_sound (v := opV y L E) h
    rw [boolK_eq, strEq_eq] at h2
    exact eqDone (p_seql hop (opS he hv) (opS he h1)) h2
  | b a =>
    obtain ⟨h0, h9⟩ := andK_sound h
    obtain ⟨b, h1, h2⟩ := asB_sound (v := opV y L E) h9
    rw [boolK_eq, not_rec] at h2
    refine eqDone (prun_eql (r := a == b) hop (opB he hv) (opB he h1) (by simp) (by simp) (by simp) (by simp) (fun w => rfl) (fun w => eq_bool (tyc1 h0))) ?_
    cases a <;> cases b <;> exact h2
  | agg l =>
    obtain ⟨l', h1, h2⟩ := asAgg_sound (v := opV y L E) h
    obtain ⟨h3, h4⟩ := andK_sound h2
    obtain ⟨h5, h6⟩ := andK_sound h4
    obtain ⟨h7, h8⟩ := andK_sound h6
    obtain ⟨vs, p1, p2⟩ := plainB_sound h5
    obtain ⟨vs', p3, p4⟩ := plainB_sound h7
    obtain ⟨us, r1, r2⟩ := hr
    obtain ⟨us', r3, r4⟩ := (opR he h1 : rel m (.agg l') _)
    have := plL_rel p1 r1; subst this
    have := plL_rel p3 r3; subst this
    rw [boolK_eq] at h8
    exact eqDone (by have := p_aggeql (p := eqL l l' = true) (P := P) hop (keyTyB_sound h3) r2 r4 p2 p4 (eqL_eq p1 p3); rwa [show decide (eqL l l' = true) = eqL l l' from by cases eqL l l' <;> simp] at this) h8
  | pn =>
    obtain ⟨h0, h9⟩ := andK_sound h
    obtain ⟨h1, h2⟩ := isPn_sound (v := opV y L E) h9
    obtain ⟨el, ht⟩ := tyc2 h0
    exact eqDone (prun_eql (r := true) hop hr (opR he h1) (by intros; nofun) (by intros; nofun) (by intros; nofun) (by intros; nofun) (fun w => rfl) (fun w => eq_ptr_nil ht)) h2
  | p id off =>
    obtain ⟨h0, h9⟩ := andK_sound h
    obtain ⟨b, c, r1, r2⟩ := hr
    rcases ptK_sound (y := opV y L E) h9 with ⟨h1, h2⟩ | ⟨h1, h2, el, j, ht, hj⟩
    rotate_left
    · obtain ⟨b', c', r1', r2'⟩ := (opR he h1 : rel m (.p id off) _)
      have hbb : b' = b := by rw [r1] at r1'; cases r1'; rfl
      subst hbb
      exact eqDone (prun_eql (r := true) hop r2 r2' (by intros; nofun) (by intros; nofun) (by intros; nofun) (by intros; nofun) (fun w => rfl) (fun w => eq_ptr_same ht hj)) h2
    obtain ⟨el, ht⟩ := tyc2 h0
    exact eqDone (prun_eql (r := false) hop r2 (opR he h1) (by intros; nofun) (by intros; nofun) (by intros; nofun) (by intros; nofun) (fun w => rfl) (fun w => eq_ptr_nil ht)) h2
  | sn =>
    obtain ⟨h0, h9⟩ := andK_sound h
    obtain ⟨h1, h2⟩ := isSn_sound (v := opV y L E) h9
    obtain ⟨el, ht⟩ := tyc3 h0
    exact eqDone (prun_eql (r := true) hop hr (opR he h1) (by intros; nofun) (by intros; nofun) (by intros; nofun) (by intros; nofun) (fun w => rfl) (fun w => eq_sl_nil ht)) h2
  | sl id off n c =>
    obtain ⟨h0, h9⟩ := andK_sound h
    obtain ⟨h1, h2⟩ := isSn_sound (v := opV y L E) h9
    obtain ⟨el, ht⟩ := tyc3 h0
    obtain ⟨b, c, r1, r2, r3⟩ := hr
    exact eqDone (prun_eql (r := false) hop r2 (opR he h1) (by intros; nofun) (by intros; nofun) (by intros; nofun) (by intros; nofun) (fun w => rfl) (fun w => eq_sl_nil ht)) h2
  | sv id off n k =>
    obtain ⟨h0, h9⟩ := andK_sound h
    obtain ⟨h1, h2⟩ := isSn_sound (v := opV y L E) h9
    obtain ⟨el, ht⟩ := tyc3 h0
    obtain ⟨b, c, r1, r3, r2⟩ := hr
    exact eqDone (prun_eql (r := false) hop r2 (opR he h1) (by intros; nofun) (by intros; nofun) (by intros; nofun) (by intros; nofun) (fun w => rfl) (fun w => eq_sl_nil ht)) h2
  | mn =>
    obtain ⟨h0, h9⟩ := andK_sound h
    obtain ⟨h1, h2⟩ := isMn_sound (v := opV y L E) h9
    obtain ⟨_, _, ht⟩ := tyc4 h0
    exact eqDone (prun_eql (r := true) hop hr (opR he h1) (by intros; nofun) (by intros; nofun) (by intros; nofun) (by intros; nofun) (fun w => rfl) (fun w => eq_map_nil ht)) h2
  | m id =>
    obtain ⟨h0, h9⟩ := andK_sound h
    obtain ⟨h1, h2⟩ := isMn_sound (v := opV y L E) h9
    obtain ⟨_, _, ht⟩ := tyc4 h0
    obtain ⟨b, c, r1, r2⟩ := hr
    exact eqDone (prun_eql (r := false) hop r2 (opR he h1) (by intros; nofun) (by intros; nofun) (by intros; nofun) (by intros; nofun) (fun w => rfl) (fun w => eq_map_nil ht)) h2
  | fnil =>
    obtain ⟨h0, h9⟩ := andK_sound h
    obtain ⟨h1, h2⟩ := isFn_sound (v := opV y L E) h9
    obtain ⟨_, _, _, ht⟩ := tyc5 h0
    exact eqDone (prun_eql (r := true) hop hr (opR he h1) (by intros; nofun) (by intros; nofun) (by intros; nofun) (by intros; nofun) (fun w => rfl) (fun w => eq_fn_nil ht)) h2
  | fn f c =>
    obtain ⟨h0, h9⟩ := andK_sound h
    obtain ⟨h1, h2⟩ := isFn_sound (v := opV y L E) h9
    obtain ⟨_, _, _, ht⟩ := tyc5 h0
    obtain ⟨vs, gg, _, _, r2⟩ := hr
    obtain ⟨x1, x2, hx⟩ := mkFn_eq gg vs
    rw [hx] at r2
    exact eqDone (prun_eql (r := false) hop r2 (opR he h1) (by intros; nofun) (by intros; nofun) (by intros; nofun) (by intros; nofun) (fun w => rfl) (fun w => eq_fn_fn ht)) h2
  | inil =>
    obtain ⟨hco, h⟩ := andK_sound h
    obtain ⟨h0, h9⟩ := andK_sound h
    obtain ⟨h1, h2⟩ := isIn_sound (v := opV y L E) h9
    obtain ⟨_, ht⟩ := tyc6 h0
    exact eqDone (prun_eql (r := true) hop hr (opR he h1) (by intros; nofun) (by intros; nofun) (by intros; nofun) (by intros; nofun) (fun w => guard_nil hco) (fun w => eq_if_nil ht)) h2
  | ifc t v =>
    obtain ⟨hco, h⟩ := andK_sound h
    obtain ⟨h0, h9⟩ := andK_sound h
    obtain ⟨h1, h2⟩ := isIn_sound (v := opV y L E) h9
    obtain ⟨_, ht⟩ := tyc6 h0
    obtain ⟨u, r1, r2⟩ := hr
    exact eqDone (prun_eql (r := false) hop r2 (opR he h1) (by intros; nofun) (by intros; nofun) (by intros; nofun) (by intros; nofun) (fun w => rfl) (fun w => eq_if_if ht)) h2
  | _ => cases h
theorem bNe_sound (hop : o.op = .binOp .neq xT x y yT) (he : EnvRel m L E e) (h : bNe P xT (isCo y) (opV x L E) (opV y L E) K = true) : PS P e o m K := by
  unfold bNe at h
  generalize hv : opV x L E = v at h
  have hr := opR he hv
  have nn0 : ∀ {u : Value}, (∀ k a, u ≠ .int k a) → True := fun _ => trivial
  cases v with
  | i k a =>
    obtain ⟨k', b, h1, h2⟩ := asI_sound (v := opV y L E) h
    obtain ⟨h3, h4⟩ := andK_sound h2
    have := kc_inj h3
    subst this
    have h5 := iEq_eq _ _ _ h4
    rw [boolK_eq, not_rec] at h5 
    rw [show (!decide (a = b)) = decide (a ≠ b) from by by_cases g : a = b <;> simp [g]] at h5
    exact eqDone (p_neq hop (opI he hv) (opI he h1)) h5
  | s l n =>
    obtain ⟨l', n', h1, h2⟩ := asS_sound (v := opV y L E) h
    rw [boolK_eq, not_rec, strEq_eq] at h2
    exact eqDone (by have := p_sneq (P := P) hop (opS he hv) (opS he h1); rwa [show decide (bytesOf l n ≠ bytesOf l' n') = !decide (bytesOf l n = bytesOf l' n') from by by_cases g : bytesOf l n = bytesOf l' n' <;> simp [g]] at this) h2
  | b a =>
    obtain ⟨h0, h9⟩ := andK_sound h
    obtain ⟨b, h1, h2⟩ := asB_sound (v := opV y L E) h9
    rw [boolK_eq] at h2
    refine eqDone (prun_neq (r := a == b) hop (opB he hv) (opB he h1) (by simp) (by simp) (by simp) (by simp) (fun w => rfl) (fun w => eq_bool (tyc1 h0))) ?_
    cases a <;> cases b <;> exact h2
  | agg l =>
    obtain ⟨l', h1, h2⟩ := asAgg_sound (v := opV y L E) h
    obtain ⟨h3, h4⟩ := andK_sound h2
    obtain ⟨h5, h6⟩ := andK_sound h4
    obtain ⟨h7, h8⟩ := andK_sound h6
    obtain ⟨vs, p1, p2⟩ := plainB_sound h5
    obtain ⟨vs', p3, p4⟩ := plainB_sound h7
    obtain ⟨us, r1, r2⟩ := hr
    obtain ⟨us', r3, r4⟩ := (opR he h1 : rel m (.agg l') _)
    have := plL_rel p1 r1; subst this
    have := plL_rel p3 r3; subst this
    rw [boolK_eq, not_rec] at h8
    exact eqDone (by have := p_aggneq (p := eqL l l' = true) (P := P) hop (keyTyB_sound h3) r2 r4 p2 p4 (eqL_eq p1 p3); rwa [show decide (¬ eqL l l' = true) = !eqL l l' from by cases eqL l l' <;> simp] at this) h8
  | pn =>
    obtain ⟨h0, h9⟩ := andK_sound h
    obtain ⟨h1, h2⟩ := isPn_sound (v := opV y L E) h9
    obtain ⟨el, ht⟩ := tyc2 h0
    exact eqDone (prun_neq (r := true) hop hr (opR he h1) (by intros; nofun) (by intros; nofun) (by intros; nofun) (by intros; nofun) (fun w => rfl) (fun w => eq_ptr_nil ht)) h2
  | p id off =>
    obtain ⟨h0, h9⟩ := andK_sound h
    obtain ⟨b, c, r1, r2⟩ := hr
    rcases ptK_sound (y := opV y L E) h9 with ⟨h1, h2⟩ | ⟨h1, h2, el, j, ht, hj⟩
    rotate_left
    · obtain ⟨b', c', r1', r2'⟩ := (opR he h1 : rel m (.p id off) _)
      have hbb : b' = b := by rw [r1] at r1'; cases r1'; rfl
      subst hbb
      exact eqDone (prun_neq (r := true) hop r2 r2' (by intros; nofun) (by intros; nofun) (by intros; nofun) (by intros; nofun) (fun w => rfl) (fun w => eq_ptr_same ht hj)) h2
    obtain ⟨el, ht⟩ := tyc2 h0
    exact eqDone (prun_neq (r := false) hop r2 (opR he h1) (by intros; nofun) (by intros; nofun) (by intros; nofun) (by intros; nofun) (fun w => rfl) (fun w => eq_ptr_nil ht)) h2
  | sn =>
    obtain ⟨h0, h9⟩ := andK_sound h
    obtain ⟨h1, h2⟩ := isSn_sound (v := opV y L E) h9
    obtain ⟨el, ht⟩ := tyc3 h0
    exact eqDone (prun_neq (r := true) hop hr (opR he h1) (by intros; nofun) (by intros; nofun) (by intros; nofun) (by intros; nofun) (fun w => rfl) (fun w => eq_sl_nil ht)) h2
  | sl id off n c =>
    obtain ⟨h0, h9⟩ := andK_sound h
    obtain ⟨h1, h2⟩ := isSn_sound (v := opV y L E) h9
    obtain ⟨el, ht⟩ := tyc3 h0
    obtain ⟨b, c, r1, r2, r3⟩ := hr
    exact eqDone (prun_neq (r := false) hop r2 (opR he h1) (by intros; nofun) (by intros; nofun) (by intros; nofun) (by intros; nofun) (fun w => rfl) (fun w => eq_sl_nil ht)) h2
  | sv id off n k =>
    obtain ⟨h0, h9⟩ := andK_sound h
    obtain ⟨h1, h2⟩ := isSn_sound (v := opV y L E) h9
    obtain ⟨el, ht⟩ := tyc3 h0
    obtain ⟨b, c, r1, r3, r2⟩ := hr
    exact eqDone (prun_neq (r := false) hop r2 (opR he h1) (by intros; nofun) (by intros; nofun) (by intros; nofun) (by intros; nofun) (fun w => rfl) (fun w => eq_sl_nil ht)) h2
  | mn =>
    obtain ⟨h0, h9⟩ := andK_sound h
    obtain ⟨h1, h2⟩ := isMn_sound (v := opV y L E) h9
    obtain ⟨_, _, ht⟩ := tyc4 h0
    exact eqDone (prun_neq (r := true) hop hr (opR he h1) (by intros; nofun) (by intros; nofun) (by intros; nofun) (by intros; nofun) (fun w => rfl) (fun w => eq_map_nil ht)) h2
  | m id =>
    obtain ⟨h0, h9⟩ := andK_sound h
    obtain ⟨h1, h2⟩ := isMn_sound (v := opV y L E) h9
    obtain ⟨_, _, ht⟩ := tyc4 h0
    obtain ⟨b, c, r1, r2⟩ := hr
    exact eqDone (prun_neq (r := false) hop r2 (opR he h1) (by intros; nofun) (by intros; nofun) (by intros; nofun) (by intros; nofun) (fun w => rfl) (fun w => eq_map_nil ht)) h2
  | fnil =>
    obtain ⟨h0, h9⟩ := andK_sound h
    obtain ⟨h1, h2⟩ := isFn_sound (v := opV y L E) h9
    obtain ⟨_, _, _, ht⟩ := tyc5 h0
    exact eqDone (prun_neq (r := true) hop hr (opR he h1) (by intros; nofun) (by intros; nofun) (by intros; nofun) (by intros; nofun) (fun w => rfl) (fun w => eq_fn_nil ht)) h2
  | fn f c =>
    obtain ⟨h0, h9⟩ := andK_sound h
    obtain ⟨h1, h2⟩ := isFn_sound (v := opV y L E) h9
    obtain ⟨_, _, _, ht⟩ := tyc5 h0
    obtain ⟨vs, gg, _, _, r2⟩ := hr
    obtain ⟨x1, x2, hx⟩ := mkFn_eq gg vs
    rw [hx] at r2
    exact eqDone (prun_neq (r := false) hop r2 (opR he h1) (by intros; nofun) (by intros; nofun) (by intros; nofun) (by intros; nofun) (fun w => rfl) (fun w => eq_fn_fn ht)) h2
  | inil =>
    obtain ⟨hco, h⟩ := andK_sound h
    obtain ⟨h0, h9⟩ := andK_sound h
    obtain ⟨h1, h2⟩ := isIn_sound (v := opV y L E) h9
    obtain ⟨_, ht⟩ := tyc6 h0
    exact eqDone (prun_neq (r := true) hop hr (opR he h1) (by intros; nofun) (by intros; nofun) (by intros; nofun) (by intros; nofun) (fun w => guard_nil hco) (fun w => eq_if_nil ht)) h2
  | ifc t v =>
    obtain ⟨hco, h⟩ := andK_sound h
    obtain ⟨h0, h9⟩ := andK_sound h
    obtain ⟨h1, h2⟩ := isIn_sound (v := opV y L E) h9
    obtain ⟨_, ht⟩ := tyc6 h0
    obtain ⟨u, r1, r2⟩ := hr
    exact eqDone (prun_neq (r := false) hop r2 (opR he h1) (by intros; nofun) (by intros; nofun) (by intros; nofun) (by intros; nofun) (fun w => rfl) (fun w => eq_if_if ht)) h2
  | _ => cases h
end
end Go.Evl
