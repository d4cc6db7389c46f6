/-
  The evaluator's look-ups and its quiet operations. It proves nothing of the program by itself.
-/
import Derived.Test.YtbbgajjonodlfaaGreatGEv1
import Derived.Test.YtbbgajjonodlfaaGreatGSl12
set_option linter.unusedVariables false
set_option linter.unusedSimpArgs false
namespace Go.Evl
open Go Go.Sl

/-! ### Forms -/
noncomputable def asB (v : AV) (K : Bool → Bool) : Bool := AV.rec (motive := fun _ => (Bool → Bool) → Bool) (fun _ => false) (fun x K => K x) (fun _ _ _ => false) (fun _ _ _ => false) (fun _ => false) (fun _ _ _ => false) (fun _ => false) (fun _ => false) (fun _ _ _ _ _ => false) (fun _ _ _ _ _ => false) (fun _ => false) (fun _ _ => false) (fun _ _ _ _ => false) (fun _ => false) (fun _ => false) (fun _ _ _ _ => false) (fun _ => false) (fun _ _ _ _ _ => false) (fun _ _ _ => false) (fun _ _ _ => false) v K
noncomputable def asI (v : AV) (K : IntKind → Int → Bool) : Bool := AV.rec (motive := fun _ => (IntKind → Int → Bool) → Bool) (fun _ => false) (fun _ _ => false) (fun k n K => K k n) (fun _ _ _ => false) (fun _ => false) (fun _ _ _ => false) (fun _ => false) (fun _ => false) (fun _ _ _ _ _ => false) (fun _ _ _ _ _ => false) (fun _ => false) (fun _ _ => false) (fun _ _ _ _ => false) (fun _ => false) (fun _ => false) (fun _ _ _ _ => false) (fun _ => false) (fun _ _ _ _ _ => false) (fun _ _ _ => false) (fun _ _ _ => false) v K
noncomputable def asS (v : AV) (K : Nat → Nat → Bool) : Bool := AV.rec (motive := fun _ => (Nat → Nat → Bool) → Bool) (fun _ => false) (fun _ _ => false) (fun _ _ _ => false) (fun l n K => K l n) (fun _ => false) (fun _ _ _ => false) (fun _ => false) (fun _ => false) (fun _ _ _ _ _ => false) (fun _ _ _ _ _ => false) (fun _ => false) (fun _ _ => false) (fun _ _ _ _ => false) (fun _ => false) (fun _ => false) (fun _ _ _ _ => false) (fun _ => false) (fun _ _ _ _ _ => false) (fun _ _ _ => false) (fun _ _ _ => false) v K
noncomputable def asP (v : AV) (K : Nat → Nat → Bool) : Bool := AV.rec (motive := fun _ => (Nat → Nat → Bool) → Bool) (fun _ => false) (fun _ _ => false) (fun _ _ _ => false) (fun _ _ _ => false) (fun _ => false) (fun i o K => K i o) (fun _ => false) (fun _ => false) (fun _ _ _ _ _ => false) (fun _ _ _ _ _ => false) (fun _ => false) (fun _ _ => false) (fun _ _ _ _ => false) (fun _ => false) (fun _ => false) (fun _ _ _ _ => false) (fun _ => false) (fun _ _ _ _ _ => false) (fun _ _ _ => false) (fun _ _ _ => false) v K
noncomputable def asTup (v : AV) (K : AV → Bool) : Bool := AV.rec (motive := fun _ => (AV → Bool) → Bool) (fun _ => false) (fun _ _ => false) (fun _ _ _ => false) (fun _ _ _ => false) (fun _ => false) (fun _ _ _ => false) (fun _ => false) (fun _ => false) (fun _ _ _ _ _ => false) (fun _ _ _ _ _ => false) (fun _ => false) (fun _ _ => false) (fun _ _ _ _ => false) (fun _ => false) (fun _ => false) (fun _ _ _ _ => false) (fun _ => false) (fun _ _ _ _ _ => false) (fun _ _ _ => false) (fun l _ K => K l) v K
noncomputable def asAgg (v : AV) (K : AV → Bool) : Bool := AV.rec (motive := fun _ => (AV → Bool) → Bool) (fun _ => false) (fun _ _ => false) (fun _ _ _ => false) (fun _ _ _ => false) (fun _ => false) (fun _ _ _ => false) (fun _ => false) (fun _ => false) (fun _ _ _ _ _ => false) (fun _ _ _ _ _ => false) (fun _ => false) (fun _ _ => false) (fun _ _ _ _ => false) (fun _ => false) (fun _ => false) (fun _ _ _ _ => false) (fun _ => false) (fun _ _ _ _ _ => false) (fun l _ K => K l) (fun _ _ _ => false) v K
noncomputable def asIf (v : AV) (K : Nat → AV → Bool) : Bool := AV.rec (motive := fun _ => (Nat → AV → Bool) → Bool) (fun _ => false) (fun _ _ => false) (fun _ _ _ => false) (fun _ _ _ => false) (fun _ => false) (fun _ _ _ => false) (fun _ => false) (fun _ => false) (fun _ _ _ _ _ => false) (fun _ _ _ _ _ => false) (fun _ => false) (fun _ _ => false) (fun _ _ _ _ => false) (fun _ => false) (fun _ => false) (fun t v _ K => K t v) (fun _ => false) (fun _ _ _ _ _ => false) (fun _ _ _ => false) (fun _ _ _ => false) v K
noncomputable def asNil (v : AV) (x : Bool) : Bool := AV.rec (motive := fun _ => (Bool) → Bool) (fun _ => false) (fun _ _ => false) (fun _ _ _ => false) (fun _ _ _ => false) (fun _ => false) (fun _ _ _ => false) (fun _ => false) (fun _ => false) (fun _ _ _ _ _ => false) (fun _ _ _ _ _ => false) (fun _ => false) (fun _ _ => false) (fun _ _ _ _ => false) (fun _ => false) (fun _ => false) (fun _ _ _ _ => false) (fun  x => x) (fun _ _ _ _ _ => false) (fun _ _ _ => false) (fun _ _ _ => false) v x
noncomputable def asCons (v : AV) (K : AV → AV → Bool) : Bool := AV.rec (motive := fun _ => (AV → AV → Bool) → Bool) (fun _ => false) (fun _ _ => false) (fun _ _ _ => false) (fun _ _ _ => false) (fun _ => false) (fun _ _ _ => false) (fun _ => false) (fun _ => false) (fun _ _ _ _ _ => false) (fun _ _ _ _ _ => false) (fun _ => false) (fun _ _ => false) (fun _ _ _ _ => false) (fun _ => false) (fun _ => false) (fun _ _ _ _ => false) (fun _ => false) (fun h t _ _ K => K h t) (fun _ _ _ => false) (fun _ _ _ => false) v K
noncomputable def forceK (v : AV) (K : AV → Bool) : Bool := AV.rec (motive := fun _ => (AV → Bool) → Bool) (fun  K => K (.bad)) (fun a K => K (.b a)) (fun a b K => K (.i a b)) (fun a b K => K (.s a b)) (fun  K => K (.pn)) (fun a b K => K (.p a b)) (fun  K => K (.sn)) (fun  K => K (.se)) (fun a b c d K => K (.sl a b c d)) (fun a b c d K => K (.sv a b c d)) (fun  K => K (.mn)) (fun a K => K (.m a)) (fun a b _ K => K (.fn a b)) (fun  K => K (.fnil)) (fun  K => K (.inil)) (fun a b _ K => K (.ifc a b)) (fun  K => K (.nil)) (fun a b _ _ K => K (.cons a b)) (fun a _ K => K (.agg a)) (fun a _ K => K (.tup a)) v K
theorem forceK_eq (v : AV) (K : AV → Bool) : forceK v K = K v := by cases v <;> rfl
theorem asB_sound {v : AV} {K : Bool → Bool} (h : asB v K = true) : ∃ x, v = .b x ∧ K x = true := by cases v <;> first | exact ⟨_, rfl, h⟩ | cases h
theorem asI_sound {v : AV} {K : IntKind → Int → Bool} (h : asI v K = true) : ∃ k n, v = .i k n ∧ K k n = true := by cases v <;> first | exact ⟨_, _, rfl, h⟩ | cases h
theorem asS_sound {v : AV} {K : Nat → Nat → Bool} (h : asS v K = true) : ∃ l n, v = .s l n ∧ K l n = true := by cases v <;> first | exact ⟨_, _, rfl, h⟩ | cases h
theorem asP_sound {v : AV} {K : Nat → Nat → Bool} (h : asP v K = true) : ∃ i o, v = .p i o ∧ K i o = true := by cases v <;> first | exact ⟨_, _, rfl, h⟩ | cases h
theorem asTup_sound {v : AV} {K : AV → Bool} (h : asTup v K = true) : ∃ l, v = .tup l ∧ K l = true := by cases v <;> first | exact ⟨_, rfl, h⟩ | cases h
theorem asAgg_sound {v : AV} {K : AV → Bool} (h : asAgg v K = true) : ∃ l, v = .agg l ∧ K l = true := by cases v <;> first | exact ⟨_, rfl, h⟩ | cases h
theorem asIf_sound {v : AV} {K : Nat → AV → Bool} (h : asIf v K = true) : ∃ t x, v = .ifc t x ∧ K t x = true := by cases v <;> first | exact ⟨_, _, rfl, h⟩ | cases h
theorem asNil_sound {v : AV} {x : Bool} (h : asNil v x = true) : v = .nil ∧ x = true := by cases v <;> first | exact ⟨rfl, h⟩ | cases h
theorem asCons_sound {v : AV} {K : AV → AV → Bool} (h : asCons v K = true) : ∃ a l, v = .cons a l ∧ K a l = true := by cases v <;> first | exact ⟨_, _, rfl, h⟩ | cases h

/-! ### Temporaries -/
theorem beq_ne {a b : Nat} (h : ¬ a = b) : Nat.beq a b = false := by
  cases hb : Nat.beq a b with
  | false => rfl
  | true => exact absurd (Nat.eq_of_beq_eq_true hb) h
theorem recIte {x y : AV} (a b : Nat) : Bool.rec (motive := fun _ => AV) x y (Nat.beq a b) = if a = b then y else x := by
  by_cases h : a = b
  · subst h; simp
  · rw [if_neg h, beq_ne h]
theorem look_nil (t : Nat) : look .nil .nil t = .bad := rfl
theorem look_nilc (t' : Nat) (v : AV) (r : En) (t : Nat) : look .nil (.cons t' v r) t = if t = t' then v else look .nil r t := recIte _ _
theorem look_cons (t' : Nat) (v : AV) (r E : En) (t : Nat) : look (.cons t' v r) E t = if t = t' then v else look r E t := recIte _ _
theorem EnvRel.cons {m : Map} {L E : En} {e : Env} {d : Nat} {v : AV} {u : Value} (h : EnvRel m L E e) (hv : rel m v u) : EnvRel m (.cons d v L) E (upd e d u) := by
  intro t
  rw [look_cons]
  unfold upd
  by_cases hd : t = d
  · subst hd; simpa using hv
  · rw [if_neg hd, beq_ne hd]; exact h t
/-- A constant. -/
def absV : Value → AV
  | .bool b => .b b
  | .int k n => .i k n
  | .string s => .s s.data.toList.length (numOf s.data.toList)
  | .pointer none => .pn
  | .slice none 0 0 => .sn
  | .map none => .mn
  | .nilFunc => .fnil
  | .nilIface => .inil
  | _ => .bad
theorem absV_rel (m : Map) (v : Value) : rel m (absV v) v := by
  unfold absV
  split <;> first | rfl | trivial | skip
  rename_i s
  show Value.string s = strV (bytesOf _ _)
  rw [bytesOf_numOf]
noncomputable def opV (x : Operand) (L E : En) : AV := Operand.rec (motive := fun _ => En → En → AV) (fun t L E => look L E t) (fun v _ _ => absV v) (fun _ _ _ => .bad) (fun f _ _ => .fn (.func f) .nil) x L E
theorem opV_rel {m : Map} {L E : En} {e : Env} (h : EnvRel m L E e) (x : Operand) : rel m (opV x L E) (ev e x) := by
  cases x with
  | tmp t => exact h t
  | const v => exact absV_rel m v
  | global g => trivial
  | func f => exact ⟨[], _, rfl, rfl, rfl⟩

/-! ### What types say -/
def isAggB (P : Program) (t : TypeId) : Option Bool := match P.underlying t with
  | some (.struct _) => some true
  | some (.array _ _) => some true
  | some _ => some false
  | none => none
theorem isAggB_t {P : Program} {t : TypeId} (h : isAggB P t = some true) : IsAgg P t := by
  unfold isAggB at h
  split at h <;> first | exact ⟨_, by assumption, rfl⟩ | cases h
theorem isAggB_f {P : Program} {t : TypeId} (h : isAggB P t = some false) : Scalar P t := by
  unfold isAggB at h
  split at h
  · cases h
  · cases h
  · rename_i d h1 h2 h3; exact ⟨d, h3, by cases d <;> first | rfl | (exact absurd h3 (h1 _)) | (exact absurd h3 (h2 _ _)) | (exact absurd rfl (h1 _)) | (exact absurd rfl (h2 _ _))⟩
  · cases h
def szB (P : Program) (t : TypeId) : Option Nat := (P.info? t).map (·.size)
theorem szB_s {P : Program} {t sz : Nat} (h : szB P t = some sz) : TySize P t sz := TySize.of h
noncomputable def optK {α : Type} (o : Option α) (K : α → Bool) : Bool := Option.rec (motive := fun _ => (α → Bool) → Bool) (fun _ => false) (fun x K => K x) o K
theorem optK_sound {α : Type} {o : Option α} {K : α → Bool} (h : optK o K = true) : ∃ x, o = some x ∧ K x = true := by cases o with
  | none => cases h
  | some x => exact ⟨x, rfl, h⟩
noncomputable def andK (c x : Bool) : Bool := Bool.rec (motive := fun _ => Bool) false x c
theorem andK_sound {c x : Bool} (h : andK c x = true) : c = true ∧ x = true := rec_false h
/-- A number that is not below 0. -/
noncomputable def asN (v : AV) (K : Nat → Bool) : Bool := asI v fun _ n => Int.rec (motive := fun _ => (Nat → Bool) → Bool) (fun n K => K n) (fun _ _ => false) n K
theorem asN_sound {v : AV} {K : Nat → Bool} (h : asN v K = true) : ∃ k n, v = .i k (Int.ofNat n) ∧ K n = true := by
  obtain ⟨k, n, rfl, h2⟩ := asI_sound h
  cases n with
  | ofNat n => exact ⟨k, n, rfl, h2⟩
  | negSucc n => cases h2
def fldB (P : Program) (t f : Nat) : Option (Nat × TypeId × Bool) := match P.underlying t with | some (.struct fs) => (fs[f]?).map fun fd => (fd.offset, fd.type, ((P.info? fd.type).map fun i => !(Nat.beq i.size 0)).getD false) | _ => none
noncomputable def fldK (P : Program) (t f : Nat) (K : Nat → TypeId → Bool) : Bool := optK (fldB P t f) fun x => andK x.2.2 (natK x.1 fun o => K o x.2.1)
theorem fldK_sound {P : Program} {t f : Nat} {K : Nat → TypeId → Bool} (h : fldK P t f K = true) : ∃ off ft, FieldAt P t f off ft ∧ K off ft = true := by
  obtain ⟨⟨off, ft, b⟩, h1, h2⟩ := optK_sound h
  obtain ⟨h3, h4⟩ := andK_sound h2
  rw [natK_eq] at h4
  have h3 : b = true := h3
  subst h3
  exact ⟨off, ft, FieldAt.of h1, h4⟩

/-! ### Lists of cells -/
/-- The i-th. -/
noncomputable def nthK (i : Nat) : AV → (AV → Bool) → Bool := Nat.rec (motive := fun _ => AV → (AV → Bool) → Bool) (fun l K => asCons l fun a _ => K a) (fun _ ih l K => asCons l fun _ t => ih t K) i
theorem nthK_sound {m : Map} : ∀ {i : Nat} {l : AV} {K : AV → Bool} {vs : List Value}, nthK i l K = true → relL m l vs → ∃ v u, vs[i]? = some u ∧ rel m v u ∧ K v = true
  | 0, l, K, vs, h, hr => by
    obtain ⟨a, t, rfl, h2⟩ := asCons_sound (v := l) h
    obtain ⟨u, us, h3, h4, rfl⟩ := hr
    exact ⟨a, u, rfl, h3, h2⟩
  | i + 1, l, K, vs, h, hr => by
    obtain ⟨a, t, rfl, h2⟩ := asCons_sound (v := l) h
    obtain ⟨u, us, h3, h4, rfl⟩ := hr
    exact nthK_sound (i := i) h2 h4
noncomputable def dropK (i : Nat) : AV → (AV → Bool) → Bool := Nat.rec (motive := fun _ => AV → (AV → Bool) → Bool) (fun l K => K l) (fun _ ih l K => asCons l fun _ t => ih t K) i
theorem dropK_sound {m : Map} : ∀ {i : Nat} {l : AV} {K : AV → Bool} {vs : List Value}, dropK i l K = true → relL m l vs → i ≤ vs.length ∧ ∃ l', relL m l' (vs.drop i) ∧ K l' = true
  | 0, l, K, vs, h, hr => ⟨Nat.zero_le _, l, hr, h⟩
  | i + 1, l, K, vs, h, hr => by
    obtain ⟨a, t, rfl, h2⟩ := asCons_sound (v := l) h
    obtain ⟨u, us, h3, h4, rfl⟩ := hr
    obtain ⟨h5, l', h6, h7⟩ := dropK_sound (i := i) h2 h4
    exact ⟨by simp; omega, l', h6, h7⟩
noncomputable def takeK (n : Nat) : AV → (AV → Bool) → Bool := Nat.rec (motive := fun _ => AV → (AV → Bool) → Bool) (fun _ K => K .nil) (fun _ ih l K => asCons l fun a t => ih t fun r => K (.cons a r)) n
theorem takeK_sound {m : Map} : ∀ {n : Nat} {l : AV} {K : AV → Bool} {vs : List Value}, takeK n l K = true → relL m l vs → n ≤ vs.length ∧ ∃ l', relL m l' (vs.take n) ∧ K l' = true
  | 0, l, K, vs, h, hr => ⟨Nat.zero_le _, .nil, by simp [relL], h⟩
  | n + 1, l, K, vs, h, hr => by
    obtain ⟨a, t, rfl, h2⟩ := asCons_sound (v := l) h
    obtain ⟨u, us, h3, h4, rfl⟩ := hr
    obtain ⟨h5, l', h6, h7⟩ := takeK_sound (n := n) h2 h4
    exact ⟨by simp; omega, .cons a l', ⟨u, us.take n, h3, h6, rfl⟩, h7⟩
end Go.Evl
namespace Go.Evl
open Go Go.Sl
/-- The operation comes to a value that is told, whatever the world. -/
def PS (P : Program) (e : Env) (o : Oper) (m : Map) (K : AV → Bool) : Prop := ∃ av v, PRun P e o v ∧ rel m av v ∧ K av = true

/-! ### Whole numbers -/
noncomputable def lim (k : IntKind) : Nat := IntKind.rec (motive := fun _ => Nat) 128 32768 2147483648 9223372036854775808 256 65536 4294967296 18446744073709551616 k
noncomputable def sgn (k : IntKind) : Bool := IntKind.rec (motive := fun _ => Bool) true true true true false false false false k
noncomputable def kc (k : IntKind) : Nat := IntKind.rec (motive := fun _ => Nat) 0 1 2 3 4 5 6 7 k
theorem kc_inj {k k' : IntKind} (h : Nat.beq (kc k) (kc k') = true) : k = k' := by cases k <;> cases k' <;> first | rfl | cases h
noncomputable def wrapK (k : IntKind) (n : Int) (K : Int → Bool) : Bool :=
  Int.rec (motive := fun _ => IntKind → (Int → Bool) → Bool) (fun m k K => Bool.rec (motive := fun _ => Bool) (intK (k.wrap (Int.ofNat m)) K) (natK m fun m => K (Int.ofNat m)) (Nat.blt m (lim k)))
    (fun m k K => Bool.rec (motive := fun _ => Bool) (intK (k.wrap (Int.negSucc m)) K) (natK m fun m => K (Int.negSucc m)) (Bool.rec (motive := fun _ => Bool) false (Nat.blt m (lim k)) (sgn k))) n k K
theorem rec_blt {β : Type} (k n : Nat) (x y : β) : Bool.rec (motive := fun _ => β) x y (Nat.blt k n) = if k < n then y else x := by
  show Bool.rec (motive := fun _ => β) x y (Nat.ble (k + 1) n) = _
  rw [rec_ble]
  rfl
theorem wrap_nat {k : IntKind} {m : Nat} (h : m < lim k) : k.wrap (Int.ofNat m) = Int.ofNat m := by
  unfold IntKind.wrap
  cases k <;> simp [IntKind.bits, IntKind.signed, lim] at h ⊢ <;> omega
theorem wrapS (B : Int) (m : Nat) (h : (m : Int) < B) : (if (true && decide ((-((m : Int) + 1)) % (2 * B) ≥ B)) = true then (-((m : Int) + 1)) % (2 * B) - 2 * B else (-((m : Int) + 1)) % (2 * B)) = -((m : Int) + 1) := by
  have e : (-((m : Int) + 1)) % (2 * B) = 2 * B - ((m : Int) + 1) := by
    rw [← Int.add_emod_right, Int.emod_eq_of_lt (by omega) (by omega)]
    omega
  rw [e, decide_eq_true (by omega)]
  simp only [Bool.and_self, if_true]
  omega
theorem wrap_neg {k : IntKind} {m : Nat} (hs : sgn k = true) (h : m < lim k) : k.wrap (Int.negSucc m) = Int.negSucc m := by
  rw [Int.negSucc_eq]
  unfold IntKind.wrap
  cases k with
  | i8 => exact wrapS 128 m (by have : m < 128 := h; omega)
  | i16 => exact wrapS 32768 m (by have : m < 32768 := h; omega)
  | i32 => exact wrapS 2147483648 m (by have : m < 2147483648 := h; omega)
  | i64 => exact wrapS 9223372036854775808 m (by have : m < 9223372036854775808 := h; omega)
  | _ => cases hs
theorem wrapK_eq (k : IntKind) (n : Int) (K : Int → Bool) : wrapK k n K = K (k.wrap n) := by
  cases n with
  | ofNat m =>
    show Bool.rec (motive := fun _ => Bool) (intK (k.wrap (Int.ofNat m)) K) (natK m fun m => K (Int.ofNat m)) (Nat.blt m (lim k)) = _
    rw [rec_blt, intK_eq, natK_eq]
    split
    · rename_i h; rw [wrap_nat h]
    · rfl
  | negSucc m =>
    show Bool.rec (motive := fun _ => Bool) (intK (k.wrap (Int.negSucc m)) K) (natK m fun m => K (Int.negSucc m)) (Bool.rec (motive := fun _ => Bool) false (Nat.blt m (lim k)) (sgn k)) = _
    rw [intK_eq, natK_eq]
    cases hs : sgn k with
    | false => rfl
    | true =>
      show Bool.rec (motive := fun _ => Bool) (K (k.wrap (Int.negSucc m))) (K (Int.negSucc m)) (Nat.blt m (lim k)) = _
      rw [rec_blt]
      split
      · rename_i h; rw [wrap_neg hs h]
      · rfl
/-- Both not below 0: F; else S. -/
noncomputable def nn (a b : Int) (F : Nat → Nat → Bool) (S : Int → Int → Bool) : Bool :=
  Int.rec (motive := fun _ => Int → (Nat → Nat → Bool) → (Int → Int → Bool) → Bool)
    (fun m b F S => Int.rec (motive := fun _ => Nat → (Nat → Nat → Bool) → (Int → Int → Bool) → Bool) (fun n m F _ => F m n) (fun n m _ S => S (Int.ofNat m) (Int.negSucc n)) b m F S)
    (fun m b _ S => S (Int.negSucc m) b) a b F S
theorem nn_sound {a b : Int} {F : Nat → Nat → Bool} {S : Int → Int → Bool} (h : nn a b F S = true) : (∃ m n, a = Int.ofNat m ∧ b = Int.ofNat n ∧ F m n = true) ∨ S a b = true := by
  cases a with
  | ofNat m =>
    cases b with
    | ofNat n => exact .inl ⟨m, n, rfl, rfl, h⟩
    | negSucc n => exact .inr h
  | negSucc m => exact .inr h
noncomputable def ints (x y : AV) (K : IntKind → Int → Int → Bool) : Bool := asI x fun k a => asI y fun k' b => andK (Nat.beq (kc k) (kc k')) (K k a b)
theorem ints_sound {x y : AV} {K : IntKind → Int → Int → Bool} (h : ints x y K = true) : ∃ k a b, x = .i k a ∧ y = .i k b ∧ K k a b = true := by
  obtain ⟨k, a, rfl, h1⟩ := asI_sound h
  obtain ⟨k', b, rfl, h2⟩ := asI_sound h1
  obtain ⟨h3, h4⟩ := andK_sound h2
  have := kc_inj h3
  subst this
  exact ⟨k, a, b, rfl, rfl, h4⟩
noncomputable def retI (k : IntKind) (n : Int) (K : AV → Bool) : Bool := wrapK k n fun r => K (.i k r)
theorem retI_eq (k : IntKind) (n : Int) (K : AV → Bool) : retI k n K = K (.i k (k.wrap n)) := wrapK_eq k n _
noncomputable def boolK (b : Bool) (K : AV → Bool) : Bool := Bool.rec (motive := fun _ => (AV → Bool) → Bool) (fun K => K (.b false)) (fun K => K (.b true)) b K
theorem boolK_eq (b : Bool) (K : AV → Bool) : boolK b K = K (.b b) := by cases b <;> rfl
/-! What a pair of numbers comes to -/
noncomputable def iAdd (k : IntKind) (a b : Int) (K : AV → Bool) : Bool := nn a b (fun m n => retI k (Int.ofNat (Nat.add m n)) K) fun a b => retI k (Int.add a b) K
noncomputable def iSub (k : IntKind) (a b : Int) (K : AV → Bool) : Bool := nn a b (fun m n => Bool.rec (motive := fun _ => Bool) (retI k (Int.negSucc (Nat.sub (Nat.sub n m) 1)) K) (retI k (Int.ofNat (Nat.sub m n)) K) (Nat.ble n m)) fun a b => retI k (Int.sub a b) K
noncomputable def iMul (k : IntKind) (a b : Int) (K : AV → Bool) : Bool := nn a b (fun m n => retI k (Int.ofNat (Nat.mul m n)) K) fun a b => retI k (Int.mul a b) K
noncomputable def iQuo (k : IntKind) (a b : Int) (K : AV → Bool) : Bool := nn a b (fun m n => andK (Nat.blt 0 n) (retI k (Int.ofNat (Nat.div m n)) K)) fun a b => Bool.rec (motive := fun _ => Bool) (retI k (a.tdiv b) K) false (decide (b = 0))
noncomputable def iRem (k : IntKind) (a b : Int) (K : AV → Bool) : Bool := nn a b (fun m n => andK (Nat.blt 0 n) (natK (Nat.mod m n) fun r => K (.i k (Int.ofNat r)))) fun a b => Bool.rec (motive := fun _ => Bool) (intK (a.tmod b) fun r => K (.i k r)) false (decide (b = 0))
/-- A number's bits. -/
noncomputable def tcK (k : IntKind) (a : Int) (K : Nat → Bool) : Bool := Int.rec (motive := fun _ => (Nat → Bool) → Bool) (fun m K => andK (Nat.blt m (lim k)) (K m)) (fun m K => andK (Nat.blt m (lim k)) (natK (Nat.sub (Nat.pow 2 k.bits) (Nat.succ m)) K)) a K
noncomputable def iBit (F : Nat → Nat → Nat) (k : IntKind) (a b : Int) (K : AV → Bool) : Bool := nn a b (fun m n => andK (Nat.blt m (lim k)) (andK (Nat.blt n (lim k)) (retI k (Int.ofNat (F m n)) K))) fun a b => tcK k a fun m => tcK k b fun n => retI k (Int.ofNat (F m n)) K
noncomputable def iEq (a b : Int) (K : Bool → Bool) : Bool := nn a b (fun m n => K (Nat.beq m n)) fun a b => K (decide (a = b))
noncomputable def iLt (a b : Int) (K : Bool → Bool) : Bool := nn a b (fun m n => K (Nat.blt m n)) fun a b => K (decide (a < b))
noncomputable def iLe (a b : Int) (K : Bool → Bool) : Bool := nn a b (fun m n => K (Nat.ble m n)) fun a b => K (decide (a ≤ b))
theorem iEq_eq (a b : Int) (K : Bool → Bool) (h : iEq a b K = true) : K (decide (a = b)) = true := by
  rcases nn_sound h with ⟨m, n, rfl, rfl, h'⟩ | h'
  · have : Nat.beq m n = decide (Int.ofNat m = Int.ofNat n) := by
      by_cases e : m = n
      · subst e; simp
      · rw [beq_ne e]; symm; simp; omega
    rwa [this] at h'
  · exact h'
theorem iLt_eq (a b : Int) (K : Bool → Bool) (h : iLt a b K = true) : K (decide (a < b)) = true := by
  rcases nn_sound h with ⟨m, n, rfl, rfl, h'⟩ | h'
  · have : Nat.blt m n = decide (Int.ofNat m < Int.ofNat n) := by
      rw [Bool.eq_iff_iff]; simp
    rwa [this] at h'
  · exact h'
theorem iLe_eq (a b : Int) (K : Bool → Bool) (h : iLe a b K = true) : K (decide (a ≤ b)) = true := by
  rcases nn_sound h with ⟨m, n, rfl, rfl, h'⟩ | h'
  · have : Nat.ble m n = decide (Int.ofNat m ≤ Int.ofNat n) := by
      rw [Bool.eq_iff_iff]; simp
    rwa [this] at h'
  · exact h'
theorem iAdd_eq (k : IntKind) (a b : Int) (K : AV → Bool) (h : iAdd k a b K = true) : K (.i k (k.wrap (a + b))) = true := by
  rcases nn_sound h with ⟨m, n, rfl, rfl, h'⟩ | h'
  · rw [retI_eq] at h'; exact h'
  · rw [retI_eq] at h'; exact h'
theorem iSub_eq (k : IntKind) (a b : Int) (K : AV → Bool) (h : iSub k a b K = true) : K (.i k (k.wrap (a - b))) = true := by
  rcases nn_sound h with ⟨m, n, rfl, rfl, h'⟩ | h'
  · rw [retI_eq, retI_eq, rec_ble] at h'
    split at h'
    · rename_i g
      rw [show Int.ofNat m - Int.ofNat n = Int.ofNat (Nat.sub m n) from by simp only [Int.ofNat_eq_natCast, Nat.sub_eq]; omega]; exact h'
    · rename_i g
      rw [show Int.ofNat m - Int.ofNat n = Int.negSucc (Nat.sub (Nat.sub n m) 1) from by simp only [Int.ofNat_eq_natCast, Nat.sub_eq]; omega]; exact h'
  · rw [retI_eq] at h'; exact h'
theorem iMul_eq (k : IntKind) (a b : Int) (K : AV → Bool) (h : iMul k a b K = true) : K (.i k (k.wrap (a * b))) = true := by
  rcases nn_sound h with ⟨m, n, rfl, rfl, h'⟩ | h'
  · rw [retI_eq] at h'; exact h'
  · rw [retI_eq] at h'; exact h'
theorem iQuo_eq (k : IntKind) (a b : Int) (K : AV → Bool) (h : iQuo k a b K = true) : b ≠ 0 ∧ K (.i k (k.wrap (a.tdiv b))) = true := by
  rcases nn_sound h with ⟨m, n, rfl, rfl, h'⟩ | h'
  · obtain ⟨h1, h2⟩ := andK_sound h'
    rw [retI_eq] at h2
    have := blt_lt h1
    exact ⟨by simp; omega, h2⟩
  · by_cases hb : b = 0
    · simp [hb] at h'
    · rw [decide_eq_false hb, retI_eq] at h'; exact ⟨hb, h'⟩
theorem iRem_eq (k : IntKind) (a b : Int) (K : AV → Bool) (h : iRem k a b K = true) : b ≠ 0 ∧ K (.i k (a.tmod b)) = true := by
  rcases nn_sound h with ⟨m, n, rfl, rfl, h'⟩ | h'
  · obtain ⟨h1, h2⟩ := andK_sound h'
    rw [natK_eq] at h2
    have := blt_lt h1
    exact ⟨by simp; omega, h2⟩
  · by_cases hb : b = 0
    · simp [hb] at h'
    · rw [decide_eq_false hb, intK_eq] at h'; exact ⟨hb, h'⟩
theorem lim_le (k : IntKind) : lim k ≤ 2 ^ k.bits := by cases k <;> decide
theorem bv_nat {w m : Nat} (h : m < 2 ^ w) : (BitVec.ofInt w (Int.ofNat m)).toNat = m := by
  simp only [Int.ofNat_eq_natCast, BitVec.ofInt_natCast, BitVec.toNat_ofNat]
  exact Nat.mod_eq_of_lt h
theorem bv_neg {w m : Nat} (h : m < 2 ^ w) : (BitVec.ofInt w (Int.negSucc m)).toNat = 2 ^ w - (m + 1) := by
  rw [BitVec.toNat_ofInt, Int.negSucc_eq]
  have e : (-((m : Int) + 1)) % ((2 ^ w : Nat) : Int) = ((2 ^ w : Nat) : Int) - ((m : Int) + 1) := by
    rw [← Int.add_emod_right, Int.emod_eq_of_lt (by omega) (by omega)]
    omega
  rw [e]
  omega
theorem tcK_sound {k : IntKind} {a : Int} {K : Nat → Bool} (h : tcK k a K = true) : K (BitVec.ofInt k.bits a).toNat = true := by
  cases a with
  | ofNat m =>
    obtain ⟨h1, h2⟩ := andK_sound h
    rw [bv_nat (Nat.lt_of_lt_of_le (blt_lt h1) (lim_le k))]
    exact h2
  | negSucc m =>
    obtain ⟨h1, h2⟩ := andK_sound h
    rw [natK_eq] at h2
    rw [bv_neg (Nat.lt_of_lt_of_le (blt_lt h1) (lim_le k))]
    exact h2
theorem iBit_eq {F : Nat → Nat → Nat} {G : ∀ w, BitVec w → BitVec w → BitVec w} (hF : ∀ w (x y : BitVec w), (G w x y).toNat = F x.toNat y.toNat) (k : IntKind) (a b : Int) (K : AV → Bool) (h : iBit F k a b K = true) :
    K (.i k (k.wrap (G _ (BitVec.ofInt k.bits a) (BitVec.ofInt k.bits b)).toNat)) = true := by
  rcases nn_sound h with ⟨m, n, rfl, rfl, h'⟩ | h'
  · obtain ⟨h1, h2⟩ := andK_sound h'
    obtain ⟨h3, h4⟩ := andK_sound h2
    rw [retI_eq] at h4
    rw [hF, bv_nat (Nat.lt_of_lt_of_le (blt_lt h1) (lim_le k)), bv_nat (Nat.lt_of_lt_of_le (blt_lt h3) (lim_le k))]
    exact h4
  · have h1 := tcK_sound (tcK_sound h')
    rw [retI_eq] at h1
    rw [hF]
    exact h1
noncomputable def shrN (k : IntKind) (a b : Int) (K : AV → Bool) : Bool := Int.rec (motive := fun _ => Int → (AV → Bool) → Bool) (fun _ _ _ => false) (fun m b K => Int.rec (motive := fun _ => Bool) (fun n => natK (Nat.div m (Nat.pow 2 (Nat.min n k.bits))) fun r => K (.i k (Int.negSucc r))) (fun _ => false) b) a b K
noncomputable def iShl (k : IntKind) (a b : Int) (K : AV → Bool) : Bool := nn a b (fun m n => retI k (Int.ofNat (Nat.mul m (Nat.pow 2 (Nat.min n k.bits)))) K) fun _ _ => false
noncomputable def iShr (k : IntKind) (a b : Int) (K : AV → Bool) : Bool := nn a b (fun m n => natK (Nat.div m (Nat.pow 2 (Nat.min n k.bits))) fun r => K (.i k (Int.ofNat r))) fun a b => shrN k a b K
theorem iShl_eq (k : IntKind) (a b : Int) (K : AV → Bool) (h : iShl k a b K = true) : 0 ≤ b ∧ K (.i k (k.wrap (a * 2 ^ (min b.toNat k.bits)))) = true := by
  rcases nn_sound h with ⟨m, n, rfl, rfl, h'⟩ | h'
  · rw [retI_eq] at h'
    refine ⟨by simp, ?_⟩
    have e : Int.ofNat m * 2 ^ (min (Int.ofNat n).toNat k.bits) = Int.ofNat (Nat.mul m (Nat.pow 2 (Nat.min n k.bits))) := by
      simp only [Int.ofNat_eq_natCast, Int.toNat_natCast, Nat.mul_eq, Nat.pow_eq, Int.natCast_mul, Int.natCast_pow]
      rfl
    rw [e]; exact h'
  · cases h'
theorem iShr_eq (k : IntKind) (a b : Int) (K : AV → Bool) (h : iShr k a b K = true) : 0 ≤ b ∧ K (.i k (a.fdiv (2 ^ (min b.toNat k.bits)))) = true := by
  rcases nn_sound h with ⟨m, n, rfl, rfl, h'⟩ | h'
  · rw [natK_eq] at h'
    refine ⟨by simp, ?_⟩
    have e : (Int.ofNat m).fdiv (2 ^ (min (Int.ofNat n).toNat k.bits)) = Int.ofNat (Nat.div m (Nat.pow 2 (Nat.min n k.bits))) := by
      have e2 : (2 : Int) ^ (min (Int.ofNat n).toNat k.bits) = ((2 ^ (Nat.min n k.bits) : Nat) : Int) := by
        simp only [Int.ofNat_eq_natCast, Int.toNat_natCast, Int.natCast_pow]
        rfl
      rw [e2]
      simp only [Int.ofNat_eq_natCast]
      rw [Int.fdiv_eq_ediv_of_nonneg _ (Int.natCast_nonneg _)]
      rfl
    rw [e]; exact h'
  · cases a with
    | ofNat m => cases h'
    | negSucc m =>
      cases b with
      | negSucc n => cases h'
      | ofNat n =>
        have h' : natK (Nat.div m (Nat.pow 2 (Nat.min n k.bits))) (fun r => K (.i k (Int.negSucc r))) = true := h'
        rw [natK_eq] at h'
        refine ⟨by simp, ?_⟩
        have e : (Int.negSucc m).fdiv (2 ^ (min (Int.ofNat n).toNat k.bits)) = Int.negSucc (Nat.div m (Nat.pow 2 (Nat.min n k.bits))) := by
          have e2 : (2 : Int) ^ (min (Int.ofNat n).toNat k.bits) = ((2 ^ (Nat.min n k.bits) : Nat) : Int) := by
            simp only [Int.ofNat_eq_natCast, Int.toNat_natCast, Int.natCast_pow]
            rfl
          rw [e2]
          obtain ⟨d, hd⟩ : ∃ d, 2 ^ (Nat.min n k.bits) = d + 1 := ⟨2 ^ (Nat.min n k.bits) - 1, by have := Nat.two_pow_pos (Nat.min n k.bits); omega⟩
          show (Int.negSucc m).fdiv ((2 ^ (Nat.min n k.bits) : Nat) : Int) = Int.negSucc (m / 2 ^ (Nat.min n k.bits))
          rw [hd]
          rfl
        rw [e]; exact h'

/-! ### Texts -/
noncomputable def strEq (l n l' n' : Nat) : Bool := Bool.rec (motive := fun _ => Bool) false (Nat.beq (Nat.mod n (Nat.pow 256 l)) (Nat.mod n' (Nat.pow 256 l))) (Nat.beq l l')
theorem strEq_eq (l n l' n' : Nat) : strEq l n l' n' = decide (bytesOf l n = bytesOf l' n') := by
  unfold strEq
  by_cases h : l = l'
  · subst h
    have e : Nat.beq l l = true := by simp
    rw [e]
    show Nat.beq (n % 256 ^ l) (n' % 256 ^ l) = _
    by_cases g : n % 256 ^ l = n' % 256 ^ l
    · rw [decide_eq_true ((bytesOf_inj l n n').2 g), g]; simp
    · rw [decide_eq_false (fun x => g ((bytesOf_inj l n n').1 x)), beq_ne g]
  · rw [beq_ne h, decide_eq_false]
    intro g
    have := congrArg List.length g
    rw [bytesOf_length, bytesOf_length] at this
    exact h this
end Go.Evl
