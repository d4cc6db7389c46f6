/-
  The evaluator's look-ups and its quiet operations. It proves nothing of the program by itself.
-/
import Derived.Test.YtokbjejbgbdkoaaGreatGEv2
import Derived.Test.YtokbjejbgbdkoaaGreatGSl12
set_option linter.unusedVariables false
set_option linter.unusedSimpArgs false
namespace Go.Evl
open Go Go.Sl

/-! ### Forms -/
noncomputable def asB (v : AV) (K : Bool → Bool) : Bool := AV.rec (motive := fun _ => (Bool → Bool) → Bool) (fun _ => false) (fun x K => K x) (fun _ _ _ => false) (fun _ _ _ => false) (fun _ => false) (fun _ _ _ => false) (fun _ => false) (fun _ => false) (fun _ _ _ _ _ => false) (fun _ _ _ _ _ => false) (fun _ => false) (fun _ _ => false) (fun _ _ _ _ => false) (fun _ => false) (fun _ => false) (fun _ _ _ _ => false) (fun _ => false) (fun _ _ _ _ _ => false) (fun _ _ _ => false) (fun _ _ _ => false) v K
noncomputable def asI (v : AV) (K : IntKind → Int → Bool) : Bool := AV.rec (motive := fun _ => (IntKind → Int → Bool) → Bool) (fun _ => false) (fun _ _ => false) (fun k n K => K k n) (fun _ _ _ => false) (fun _ => false) (fun _ _ _ => false) (fun _ => false) (fun _ => false) (fun _ _ _ _ _ => false) (fun _ _ _ _ _ => false) (fun _ => false) (fun _ _ => false) (fun _ _ _ _ => false) (fun _ => false) (fun _ => false) (fun _ _ _ _ => false) (fun _ => false) (fun _ _ _ _ _ => false) (fun _ _ _ => false) (fun _ _ _ => false) v K
noncomputable def asS (v : AV) (K : Nat → Nat → Bool) : Bool := AV.rec (motive := fun _ => (Nat → Nat → Bool) → Bool) (fun _ => false) (fun _ _ => false) (fun _ _ _ => false) (fun l n K => K l n) (fun _ => false) (fun _ _ _ => false) (fun _ => false) (fun _ => false) (fun _ _ _ _ _ => false) (fun _ _ _ _ _ => false) (fun _ => false) (fun _ _ => false) (fun _ _ _ _ => false) (fun _ => false) (fun _ => false) (fun _ _ _ _ => false) (fun _ => false) (fun _ _ _ _ _ => false) (fun _ _ _ => false) (fun _ _ _ => false) v K
noncomputable def asP (v : AV) (K : Nat → Nat → Bool) : Bool := AV.rec (motive := fun _ => (Nat → Nat → Bool) → Bool) (fun _ => false) (fun _ _ => false) (fun _ _ _ => false) (fun _ _ _ => false) (fun _ => false) (fun i o K => K i o) (fun _ => false) (fun _ => false) (fun _ _ _ _ _ => false) (fun _ _ _ _ _ => false) (fun _ => false) (fun _ _ => false) (fun _ _ _ _ => false) (fun _ => false) (fun _ => false) (fun _ _ _ _ => false) (fun _ => false) (fun _ _ _ _ _ => false) (fun _ _ _ => false) (fun _ _ _ => false) v K
noncomputable def asTup (v : AV) (K : AV → Bool) : Bool := AV.rec (motive := fun _ => (AV → Bool) → Bool) (fun _ => false) (fun _ _ => false) (fun _ _ _ => false) (fun _ _ _ => false) (fun _ => false) (fun _ _ _ => false) (fun _ => false) (fun _ => false) (fun _ _ _ _ _ => false) (fun _ _ _ _ _ => false) (fun _ => false) (fun _ _ => false) (fun _ _ _ _ => false) (fun _ => false) (fun _ => false) (fun _ _ _ _ => false) (fun _ => false) (fun _ _ _ _ _ => false) (fun _ _ _ => false) (fun l _ K => K l) v K
noncomputable def asAgg (v : AV) (K : AV → Bool) : Bool := AV.rec (motive := fun _ => (AV → Bool) → Bool) (fun _ => false) (fun _ _ => false) (fun _ _ _ => false) (fun _ _ _ => false) (fun _ => false) (fun _ _ _ => false) (fun _ => false) (fun _ => false) (fun _ _ _ _ _ => false) (fun _ _ _ _ _ => false) (fun _ => false) (fun _ _ => false) (fun _ _ _ _ => false) (fun _ => false) (fun _ => false) (fun _ _ _ _ => false) (fun _ => false) (fun _ _ _ _ _ => false) (fun l _ K => K l) (fun _ _ _ => false) v K
noncomputable def asIf (v : AV) (K : Nat → AV → Bool) : Bool := AV.rec (motive := fun _ => (Nat → AV → Bool) → Bool) (fun _ => false) (fun _ _ => false) (fun _ _ _ => false) (fun _ _ _ => false) (fun _ => false) (fun _ _ _ => false) (fun _ => false) (fun _ => false) (fun _ _ _ _ _ => false) (fun _ _ _ _ _ => false) (fun _ => false) (fun _ _ => false) (fun _ _ _ _ => false) (fun _ => false) (fun _ => false) (fun t v _ K => K t v) (fun _ => false) (fun _ _ _ _ _ => false) (fun _ _ _ => false) (fun _ _ _ => false) v K
noncomputable def asNil (v : AV) (x : Bool) : Bool := AV.rec (motive := fun _ => (Bool) → Bool) (fun _ => false) (fun _ _ => false) (fun _ _ _ => false) (fun _ _ _ => false) (fun _ => false) (fun _ _ _ => false) (fun _ => false) (fun _ => false) (fun _ _ _ _ _ => false) (fun _ _ _ _ _ => false) (fun _ => false) (fun _ _ => false) (fun _ _ _ _ => false) (fun _ => false) (fun _ => false) (fun _ _ _ _ => false) (fun  x => x) (fun _ _ _ _ _ => false) (fun _ _ _ => false) (fun _ _ _ => false) v x
noncomputable def asCons (v : AV) (K : AV → AV → Bool) : Bool := AV.rec (motive := fun _ => (AV → AV → Bool) → Bool) (fun _ => false) (fun _ _ => false) (fun _ _ _ => false) (fun _ _ _ => false) (fun _ => false) (fun _ _ _ => false) (fun _ => false) (fun _ => false) (fun _ _ _ _ _ => false) (fun _ _ _ _ _ => false) (fun _ => false) (fun _ _ => false) (fun _ _ _ _ => false) (fun _ => false) (fun _ => false) (fun _ _ _ _ => false) (fun _ => false) (fun h t _ _ K => K h t) (fun _ _ _ => false) (fun _ _ _ => false) v K
noncomputable def forceK (v : AV) (K : AV → Bool) : Bool := AV.rec (motive := fun _ => (AV → Bool) → Bool) (fun  K => K (.bad)) (fun a K => K (.b a)) (fun a b K => K (.i a b)) (fun a b K => K (.s a b)) (fun  K => K (.pn)) (fun a b K => K (.p a b)) (fun  K => K (.sn)) (fun  K => K (.se)) (fun a b c d K => K (.sl a b c d)) (fun a b c d K => K (.sv a b c d)) (fun  K => K (.mn)) (fun a K => K (.m a)) (fun a b _ K => K (.fn a b)) (fun  K => K (.fnil)) (fun  K => K (.inil)) (fun a b _ K => K (.ifc a b)) (fun  K => K (.nil)) (fun a b _ _ K => K (.cons a b)) (fun a _ K => K (.agg a)) (fun a _ K => K (.tup a)) v K
theorem forceK_eq (v : AV) (K : AV → Bool) : forceK v K = K v := by cases v <;> rfl
theorem asB_sound {v : AV} {K : Bool → Bool} (h : asB v K = true) : ∃ x, v = .b x ∧ K x = true := by cases v <;> first | exact ⟨_, rfl, h⟩ | cases h
theorem asI_sound {v : AV} {K : IntKind → Int → Bool} (h : asI v K = true) : ∃ k n, v = .i k n ∧ K k n = true := by cases v <;> first | exact ⟨_, _, rfl, h⟩ | cases h
theorem asS_sound {v : AV} {K : Nat → Nat → Bool} (h : asS v K = true) : ∃ l n, v = .s l n ∧ K l n = true := by cases v <;> first | exact ⟨_, _, rfl, h⟩ | cases h
theorem asP_sound {v : AV} {K : Nat → Nat → Bool} (h : asP v K = true) : ∃ i o, v = .p i o ∧ K i o = true := by cases v <;> first | exact ⟨_, _, rfl, h⟩ | cases h
theorem asTup_sound {v : AV} {K : AV → Bool} (h : asTup v K = true) : ∃ l, v = .tup l ∧ K l = true := by cases v <;> first | exact ⟨_, rfl, h⟩ | cases h
theorem asAgg_sound {v : AV} {K : AV → Bool} (h : asAgg v K = true) : ∃ l, v = .agg l ∧ K l = true := by cases v <;> first | exact ⟨_, rfl, h⟩ | cases h
theorem asIf_sound {v : AV} {K : Nat → AV → Bool} (h : asIf v K = true) : ∃ t x, v = .ifc t x ∧ K t x = true := by cases v <;> first | exact ⟨_, _, rfl, h⟩ | cases h
theorem asNil_sound {v : AV} {x : Bool} (h : asNil v x = true) : v = .nil ∧ x = true := by cases v <;> first | exact ⟨rfl, h⟩ | cases h
theorem asCons_sound {v : AV} {K : AV → AV → Bool} (h : asCons v K = true) : ∃ a l, v = .cons a l ∧ K a l = true := by cases v <;> first | exact ⟨_, _, rfl, h⟩ | cases h

/-! ### Temporaries -/
theorem beq_ne {a b : Nat} (h : ¬ a = b) : Nat.beq a b = false := by
  cases hb : Nat.beq a b with
  | false => rfl
  | true => exact absurd (Nat.eq_of_beq_eq_true hb) h
theorem recIte {x y : AV} (a b : Nat) : Bool.rec (motive := fun _ => AV) x y (Nat.beq a b) = if a = b then y else x := by
  by_cases h : a = b
  · subst h; simp
  · rw [if_neg h, beq_ne h]
theorem look_nil (t : Nat) : look .nil .nil t = .bad := rfl
theorem look_nilc (t' : Nat) (v : AV) (r : En) (t : Nat) : look .nil (.cons t' v r) t = if t = t' then v else look .nil r t := recIte _ _
theorem look_cons (t' : Nat) (v : AV) (r E : En) (t : Nat) : look (.cons t' v r) E t = if t = t' then v else look r E t := recIte _ _
theorem EnvRel.cons {m : Map} {L E : En} {e : Env} {d : Nat} {v : AV} {u : Value} (h : EnvRel m L E e) (hv : rel m v u) : EnvRel m (.cons d v L) E (upd e d u) := by
  intro t
  rw [look_cons]
  unfold upd
  by_cases hd : t = d
  · subst hd; simpa using hv
  · rw [if_neg hd, beq_ne hd]; exact h t
/-- A constant. -/
def absV : Value → AV
  | .bool b => .b b
  | .int k n => .i k n
  | .string s => .s s.data.toList.length (numOf s.data.toList)
  | .pointer none => .pn
  | .slice none 0 0 => .sn
  | .map none => .mn
  | .nilFunc => .fnil
  | .nilIface => .inil
  | _ => .bad
theorem absV_rel (m : Map) (v : Value) : rel m (absV v) v := by
  unfold absV
  split <;> first | rfl | trivial | skip
  rename_i s
  show Value.string s = strV (bytesOf _ _)
  rw [bytesOf_numOf]
noncomputable def opV (x : Operand) (L E : En) : AV := Operand.rec (motive := fun _ => En → En → AV) (fun t L E => look L E t) (fun v _ _ => absV v) (fun _ _ _ => .bad) (fun f _ _ => .fn (.func f) .nil) x L E
theorem opV_rel {m : Map} {L E : En} {e : Env} (h : EnvRel m L E e) (x : Operand) : rel m (opV x L E) (ev e x) := by
  cases x with
  | tmp t => exact h t
  | const v => exact absV_rel m v
  | global g => trivial
  | func f => exact ⟨[], _, rfl, rfl, rfl⟩

/-! ### What types say -/
def isAggB (P : Program) (t : TypeId) : Option Bool := match P.underlying t with
  | some (.struct _) => some true
  | some (.array _ _) => some true
  | some _ => some false
  | none => none
theorem isAggB_t {P : Program} {t : TypeId} (h : isAggB P t = some true) : IsAgg P t := by
  unfold isAggB at h
  split at h <;> first | exact ⟨_, by assumption, rfl⟩ | cases h
theorem isAggB_f {P : Program} {t : TypeId} (h : isAggB P t = some false) : Scalar P t := by
  unfold isAggB at h
  split at h
  · cases h
  · cases h
  · rename_i d h1 h2 h3; exact ⟨d, h3, by cases d <;> first | rfl | (exact absurd h3 (h1 _)) | (exact absurd h3 (h2 _ _)) | (exact absurd rfl (h1 _)) | (exact absurd rfl (h2 _ _))⟩
  · cases h
def szB (P : Program) (t : TypeId) : Option Nat := (P.info? t).map (·.size)
theorem szB_s {P : Program} {t sz : Nat} (h : szB P t = some sz) : TySize P t sz := TySize.of h
noncomputable def optK {α : Type} (o : Option α) (K : α → Bool) : Bool := Option.rec (motive := fun _ => (α → Bool) → Bool) (fun _ => false) (fun x K => K x) o K
theorem optK_sound {α : Type} {o : Option α} {K : α → Bool} (h : optK o K = true) : ∃ x, o = some x ∧ K x = true := by cases o with
  | none => cases h
  | some x => exact ⟨x, rfl, h⟩
noncomputable def andK (c x : Bool) : Bool := Bool.rec (motive := fun _ => Bool) false x c
theorem andK_sound {c x : Bool} (h : andK c x = true) : c = true ∧ x = true := rec_false h
/-- A number that is not below 0. -/
noncomputable def asN (v : AV) (K : Nat → Bool) : Bool := asI v fun _ n => Int.rec (motive := fun _ => (Nat → Bool) → Bool) (fun n K => K n) (fun _ _ => false) n K
theorem asN_sound {v : AV} {K : Nat → Bool} (h : asN v K = true) : ∃ k n, v = .i k (Int.ofNat n) ∧ K n = true := by
  obtain ⟨k, n, rfl, h2⟩ := asI_sound h
  cases n with
  | ofNat n => exact ⟨k, n, rfl, h2⟩
  | negSucc n => cases h2
def fldB (P : Program) (t f : Nat) : Option (Nat × TypeId × Bool) := match P.underlying t with | some (.struct fs) => (fs[f]?).map fun fd => (fd.offset, fd.type, ((P.info? fd.type).map fun i => !(Nat.beq i.size 0)).getD false) | _ => none
noncomputable def fldK (P : Program) (t f : Nat) (K : Nat → TypeId → Bool) : Bool := optK (fldB P t f) fun x => andK x.2.2 (natK x.1 fun o => K o x.2.1)
theorem fldK_sound {P : Program} {t f : Nat} {K : Nat → TypeId → Bool} (h : fldK P t f K = true) : ∃ off ft, FieldAt P t f off ft ∧ K off ft = true := by
  obtain ⟨⟨off, ft, b⟩, h1, h2⟩ := optK_sound h
  obtain ⟨h3, h4⟩ := andK_sound h2
  rw [natK_eq] at h4
  have h3 : b = true := h3
  subst h3
  exact ⟨off, ft, FieldAt.of h1, h4⟩

/-! ### Lists of cells -/
/-- The i-th. -/
noncomputable def nthK (i : Nat) : AV → (AV → Bool) → Bool := Nat.rec (motive := fun _ => AV → (AV → Bool) → Bool) (fun l K => asCons l fun a _ => K a) (fun _ ih l K => asCons l fun _ t => ih t K) i
theorem nthK_sound {m : Map} : ∀ {i : Nat} {l : AV} {K : AV → Bool} {vs : List Value}, nthK i l K = true → relL m l vs → ∃ v u, vs[i]? = some u ∧ rel m v u ∧ K v = true
  | 0, l, K, vs, h, hr => by
    obtain ⟨a, t, rfl, h2⟩ := asCons_sound (v := l) h
    obtain ⟨u, us, h3, h4, rfl⟩ := hr
    exact ⟨a, u, rfl, h3, h2⟩
  | i + 1, l, K, vs, h, hr => by
    obtain ⟨a, t, rfl, h2⟩ := asCons_sound (v := l) h
    obtain ⟨u, us, h3, h4, rfl⟩ := hr
    exact nthK_sound (i := i) h2 h4
noncomputable def dropK (i : Nat) : AV → (AV → Bool) → Bool := Nat.rec (motive := fun _ => AV → (AV → Bool) → Bool) (fun l K => K l) (fun _ ih l K => asCons l fun _ t => ih t K) i
theorem dropK_sound {m : Map} : ∀ {i : Nat} {l : AV} {K : AV → Bool} {vs : List Value}, dropK i l K = true → relL m l vs → i ≤ vs.length ∧ ∃ l', relL m l' (vs.drop i) ∧ K l' = true
  | 0, l, K, vs, h, hr => ⟨Nat.zero_le _, l, hr, h⟩
  | i + 1, l, K, vs, h, hr => by
    obtain ⟨a, t, rfl, h2⟩ := asCons_sound (v := l) h
    obtain ⟨u, us, h3, h4, rfl⟩ := hr
    obtain ⟨h5, l', h6, h7⟩ := dropK_sound (i := i) h2 h4
    exact ⟨by simp; omega, l', h6, h7⟩
noncomputable def takeK (n : Nat) : AV → (AV → Bool) → Bool := Nat.rec (motive := fun _ => AV → (AV → Bool) → Bool) (fun _ K => K .nil) (fun _ ih l K => asCons l fun a t => ih t fun r => K (.cons a r)) n
theorem takeK_sound {m : Map} : ∀ {n : Nat} {l : AV} {K : AV → Bool} {vs : List Value}, takeK n l K = true → relL m l vs → n ≤ vs.length ∧ ∃ l', relL m l' (vs.take n) ∧ K l' = true
  | 0, l, K, vs, h, hr => ⟨Nat.zero_le _, .nil, by simp [relL], h⟩
  | n + 1, l, K, vs, h, hr => by
    obtain ⟨a, t, rfl, h2⟩ := asCons_sound (v := l) h
    obtain ⟨u, us, h3, h4, rfl⟩ := hr
    obtain ⟨h5, l', h6, h7⟩ := takeK_sound (n := n) h2 h4
    exact ⟨by simp; omega, .cons a l', ⟨u, us.take n, h3, h6, rfl⟩, h7⟩
end Go.Evl
