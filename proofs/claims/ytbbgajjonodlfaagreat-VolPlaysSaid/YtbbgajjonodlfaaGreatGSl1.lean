/-
  A small separation logic over the model's worlds. It proves nothing of the program by itself.
-/
import Derived.Calls
import Derived.Orders
import Derived.OrdersHeld
import Derived.Still
import Derived.Below
set_option linter.unusedVariables false
set_option linter.unusedSimpArgs false
namespace Go.Sl
open Go

abbrev Frag := Nat → Option Obj
abbrev Assn := Frag → Prop

def Frag.disj (h k : Frag) : Prop := ∀ b, h b = none ∨ k b = none
def Frag.join (h k : Frag) : Frag := fun b => match h b with | some o => some o | none => k b
def Frag.le (h k : Frag) : Prop := ∀ b o, h b = some o → k b = some o

theorem Frag.le_refl (h : Frag) : Frag.le h h := fun _ _ x => x
theorem Frag.le_trans {a b c : Frag} (h : Frag.le a b) (k : Frag.le b c) : Frag.le a c := fun x o y => k x o (h x o y)
theorem Frag.disj_symm {h k : Frag} (d : Frag.disj h k) : Frag.disj k h := fun b => (d b).symm
theorem Frag.join_comm {h k : Frag} (d : Frag.disj h k) : Frag.join h k = Frag.join k h := by
  funext b
  unfold Frag.join
  rcases d b with e | e <;> rw [e]
  · cases k b <;> rfl
  · cases h b <;> rfl
theorem Frag.join_assoc (a b c : Frag) : Frag.join (Frag.join a b) c = Frag.join a (Frag.join b c) := by
  funext x
  unfold Frag.join
  cases a x <;> rfl
theorem Frag.le_join_left (h k : Frag) : Frag.le h (Frag.join h k) := by
  intro b o e
  unfold Frag.join
  rw [e]
theorem Frag.le_join_right {h k : Frag} (d : Frag.disj h k) : Frag.le k (Frag.join h k) := by
  rw [Frag.join_comm d]
  exact Frag.le_join_left _ _
theorem Frag.disj_join {a b c : Frag} : Frag.disj (Frag.join a b) c ↔ Frag.disj a c ∧ Frag.disj b c := by
  unfold Frag.disj Frag.join
  constructor
  · intro h
    refine ⟨fun x => ?_, fun x => ?_⟩
    · rcases h x with e | e
      · left
        cases ha : a x with
        | none => rfl
        | some o => rw [ha] at e; cases e
      · exact .inr e
    · rcases h x with e | e
      · left
        cases ha : a x with
        | none => rw [ha] at e; exact e
        | some o => rw [ha] at e; cases e
      · exact .inr e
  · rintro ⟨h1, h2⟩ x
    rcases h1 x with e | e
    · rw [e]; exact h2 x
    · exact .inr e
theorem Frag.disj_join_right {a b c : Frag} : Frag.disj c (Frag.join a b) ↔ Frag.disj c a ∧ Frag.disj c b :=
  ⟨fun h => ⟨Frag.disj_symm (Frag.disj_join.1 (Frag.disj_symm h)).1, Frag.disj_symm (Frag.disj_join.1 (Frag.disj_symm h)).2⟩,
   fun h => Frag.disj_symm (Frag.disj_join.2 ⟨Frag.disj_symm h.1, Frag.disj_symm h.2⟩)⟩
theorem Frag.disj_le {a a' b b' : Frag} (d : Frag.disj a b) (h : Frag.le a' a) (k : Frag.le b' b) : Frag.disj a' b' := by
  intro x
  cases ha : a' x with
  | none => exact .inl rfl
  | some o =>
    right
    cases hb : b' x with
    | none => rfl
    | some o' =>
      have h1 := h x o ha
      have h2 := k x o' hb
      rcases d x with e | e
      · rw [e] at h1; cases h1
      · rw [e] at h2; cases h2
theorem Frag.join_le {a a' b b' : Frag} (d : Frag.disj a b) (h : Frag.le a' a) (k : Frag.le b' b) : Frag.le (Frag.join a' b') (Frag.join a b) := by
  intro x o e
  unfold Frag.join at e
  cases ha : a' x with
  | some o' => rw [ha] at e; cases e; exact Frag.le_join_left _ _ x _ (h x _ ha)
  | none => rw [ha] at e; exact Frag.le_join_right d x _ (k x _ e)

/-- The assertions of a list, of fragments apart. -/
def sep : List Assn → Assn
  | [] => fun _ => True
  | A :: L => fun h => ∃ h1 h2, Frag.disj h1 h2 ∧ h = Frag.join h1 h2 ∧ A h1 ∧ sep L h2

/-- Block b holds o. -/
def blk (b : Nat) (o : Obj) : Assn := fun h => h b = some o

/-- From A follows B (of a part of it). -/
def Ent (A B : Assn) : Prop := ∀ h, A h → ∃ h', Frag.le h' h ∧ B h'

theorem Ent.refl (A : Assn) : Ent A A := fun h x => ⟨h, Frag.le_refl h, x⟩
theorem Ent.trans {A B C : Assn} (h : Ent A B) (k : Ent B C) : Ent A C := fun x hx =>
  let ⟨y, h1, hy⟩ := h x hx
  let ⟨z, h2, hz⟩ := k y hy
  ⟨z, Frag.le_trans h2 h1, hz⟩
theorem Ent.of_imp {A B : Assn} (h : ∀ x, A x → B x) : Ent A B := fun x hx => ⟨x, Frag.le_refl x, h x hx⟩
theorem Ent.of_eq {A B : Assn} (h : A = B) : Ent A B := h ▸ Ent.refl A
theorem Ent.cons {A B : Assn} {L M : List Assn} (h : Ent A B) (k : Ent (sep L) (sep M)) : Ent (sep (A :: L)) (sep (B :: M)) := by
  rintro x ⟨h1, h2, d, rfl, ha, hl⟩
  obtain ⟨h1', l1, hb⟩ := h h1 ha
  obtain ⟨h2', l2, hm⟩ := k h2 hl
  exact ⟨Frag.join h1' h2', Frag.join_le d l1 l2, h1', h2', Frag.disj_le d l1 l2, rfl, hb, hm⟩
theorem Ent.nil (A : Assn) : Ent A (sep []) := fun h _ => ⟨h, Frag.le_refl h, trivial⟩
theorem Ent.drop (A : Assn) (L : List Assn) : Ent (sep (A :: L)) (sep L) := by
  rintro x ⟨h1, h2, d, rfl, _, hl⟩
  exact ⟨h2, Frag.le_join_right d, hl⟩
theorem Ent.head (A : Assn) (L : List Assn) : Ent (sep (A :: L)) A := by
  rintro x ⟨h1, h2, _, rfl, ha, _⟩
  exact ⟨h1, Frag.le_join_left _ _, ha⟩
theorem Ent.one {A : Assn} : Ent A (sep [A]) := fun h x =>
  ⟨h, Frag.le_refl h, h, fun _ => none, fun _ => .inr rfl, by funext b; unfold Frag.join; cases h b <;> rfl, x, trivial⟩
theorem Ent.swap (A B : Assn) (L : List Assn) : Ent (sep (A :: B :: L)) (sep (B :: A :: L)) := by
  apply Ent.of_imp
  rintro x ⟨h1, h2, d, rfl, ha, h3, h4, d', rfl, hb, hl⟩
  have d1 := Frag.disj_join_right.1 d
  refine ⟨h3, Frag.join h1 h4, Frag.disj_join_right.2 ⟨Frag.disj_symm d1.1, d'⟩, ?_, hb, h1, h4, d1.2, rfl, ha, hl⟩
  rw [← Frag.join_assoc, Frag.join_comm d1.1, Frag.join_assoc]
theorem Ent.perm {L M : List Assn} (h : L.Perm M) : Ent (sep L) (sep M) := by
  induction h with
  | nil => exact Ent.refl _
  | cons x _ ih => exact Ent.cons (Ent.refl x) ih
  | swap x y l => exact Ent.swap y x l
  | trans _ _ ih1 ih2 => exact ih1.trans ih2
theorem Ent.flat (L M : List Assn) : Ent (sep (sep L :: M)) (sep (L ++ M)) := by
  induction L with
  | nil => exact Ent.drop _ _
  | cons A L ih =>
    rintro x ⟨h1, h2, d, rfl, ⟨h3, h4, d', rfl, ha, hl⟩, hm⟩
    have d1 := Frag.disj_join.1 d
    obtain ⟨y, hy, hs⟩ := ih (Frag.join h4 h2) ⟨h4, h2, d1.2, rfl, hl, hm⟩
    have d2 : Frag.disj h3 (Frag.join h4 h2) := Frag.disj_join_right.2 ⟨d', d1.1⟩
    refine ⟨Frag.join h3 y, ?_, h3, y, Frag.disj_le d2 (Frag.le_refl _) hy, rfl, ha, hs⟩
    rw [Frag.join_assoc]
    exact Frag.join_le d2 (Frag.le_refl _) hy
theorem Ent.unflat (L M : List Assn) : Ent (sep (L ++ M)) (sep (sep L :: M)) := by
  induction L with
  | nil =>
    intro x hx
    exact ⟨x, Frag.le_refl x, fun _ => none, x, fun _ => .inl rfl, rfl, trivial, hx⟩
  | cons A L ih =>
    rintro x ⟨h3, h4, d, rfl, ha, hl⟩
    obtain ⟨y, hy, h5, h6, d', rfl, hs, hm⟩ := ih h4 hl
    have d2 : Frag.disj h3 (Frag.join h5 h6) := Frag.disj_le d (Frag.le_refl _) hy
    have d3 := Frag.disj_join_right.1 d2
    refine ⟨Frag.join h3 (Frag.join h5 h6), Frag.join_le d (Frag.le_refl _) hy, Frag.join h3 h5, h6, Frag.disj_join.2 ⟨d3.2, d'⟩, (Frag.join_assoc _ _ _).symm, ⟨h3, h5, d3.1, rfl, ha, hs⟩, hm⟩
theorem Ent.append {L L' M M' : List Assn} (h : Ent (sep L) (sep L')) (k : Ent (sep M) (sep M')) : Ent (sep (L ++ M)) (sep (L' ++ M')) :=
  (Ent.unflat L M).trans ((Ent.cons h k).trans (Ent.flat L' M'))

/-- Number i of a list. -/
def nth {α : Type} : List α → Nat → Option α
  | [], _ => none
  | a :: _, 0 => some a
  | _ :: l, n + 1 => nth l n
def setN {α : Type} : List α → Nat → α → List α
  | [], _, _ => []
  | _ :: l, 0, b => b :: l
  | a :: l, n + 1, b => a :: setN l n b
def delN {α : Type} : List α → Nat → List α
  | [], _ => []
  | _ :: l, 0 => l
  | a :: l, n + 1 => a :: delN l n
theorem perm_nth {α : Type} : ∀ {L : List α} {i : Nat} {a : α}, nth L i = some a → L.Perm (a :: delN L i)
  | [], _, _, h => by cases h
  | b :: L, 0, a, h => by simp only [nth, Option.some.injEq] at h; subst h; exact List.Perm.refl _
  | b :: L, i + 1, a, h => (List.Perm.cons b (perm_nth (L := L) (i := i) h)).trans (List.Perm.swap a b _)
theorem perm_setN {α : Type} : ∀ {L : List α} {i : Nat} {a b : α}, nth L i = some a → (b :: delN L i).Perm (setN L i b)
  | [], _, _, _, h => by cases h
  | c :: L, 0, a, b, h => List.Perm.refl _
  | c :: L, i + 1, a, b, h => (List.Perm.swap c b _).trans (List.Perm.cons c (perm_setN (L := L) (i := i) h))
/-- The members of these numbers (each counted in what is left), and what is left. -/
def pull {α : Type} : List Nat → List α → Option (List α × List α)
  | [], L => some ([], L)
  | i :: is, L => match nth L i with
    | none => none
    | some x => match pull is (delN L i) with
      | none => none
      | some (xs, r) => some (x :: xs, r)
theorem perm_pull {α : Type} : ∀ {is : List Nat} {L A R : List α}, pull is L = some (A, R) → L.Perm (A ++ R)
  | [], L, A, R, h => by
    simp only [pull, Option.some.injEq, Prod.mk.injEq] at h
    obtain ⟨rfl, rfl⟩ := h
    exact List.Perm.refl _
  | i :: is, L, A, R, h => by
    simp only [pull] at h
    cases hn : nth L i with
    | none => rw [hn] at h; cases h
    | some x =>
      rw [hn] at h
      simp only at h
      cases hp : pull is (delN L i) with
      | none => rw [hp] at h; cases h
      | some q =>
        obtain ⟨xs, r⟩ := q
        rw [hp] at h
        simp only [Option.some.injEq, Prod.mk.injEq] at h
        obtain ⟨rfl, rfl⟩ := h
        exact (perm_nth hn).trans (List.Perm.cons x (perm_pull hp))
theorem Ent.pull {is : List Nat} {L A R : List Assn} (h : pull is L = some (A, R)) : Ent (sep L) (sep (A ++ R)) := Ent.perm (perm_pull h)
theorem Ent.pull_drop {is : List Nat} {L A R : List Assn} (h : Sl.pull is L = some (A, R)) : Ent (sep L) (sep A) := by
  refine (Ent.pull h).trans ((Ent.unflat A R).trans ?_)
  exact Ent.head _ _

/-! ### Worlds -/
structure Kept (W0 w : World) : Prop where
  os : w.os = W0.os
  tape : w.tape = W0.tape
  output : w.output = W0.output
  size : W0.heap.size ≤ w.heap.size
theorem Kept.refl (w : World) : Kept w w := ⟨rfl, rfl, rfl, Nat.le_refl _⟩
theorem Kept.trans {a b c : World} (h : Kept a b) (k : Kept b c) : Kept a c :=
  ⟨k.os.trans h.os, k.tape.trans h.tape, k.output.trans h.output, Nat.le_trans h.size k.size⟩

def within (h : Frag) (w : World) : Prop := ∀ b o, h b = some o → w.heap[b]? = some o
def Sat (W0 : World) (A : Assn) (w : World) : Prop := Kept W0 w ∧ ∃ h, within h w ∧ A h

theorem Sat.mono {W0 w : World} {A B : Assn} (h : Ent A B) (s : Sat W0 A w) : Sat W0 B w := by
  obtain ⟨k, x, hx, ha⟩ := s
  obtain ⟨y, hy, hb⟩ := h x ha
  exact ⟨k, y, fun b o e => hx b o (hy b o e), hb⟩
theorem Sat.get {W0 w : World} {L : List Assn} {i b : Nat} {o : Obj} (s : Sat W0 (sep L) w) (h : nth L i = some (blk b o)) : w.heap[b]? = some o := by
  obtain ⟨_, x, hx, ha⟩ := s.mono ((Ent.perm (perm_nth h)).trans (Ent.head _ _))
  exact hx b o ha
/-- The world's memory is turned at one block that is owned. -/
theorem Sat.put {W0 w w' : World} {L : List Assn} {i b : Nat} {o o' : Obj} (s : Sat W0 (sep L) w) (h : nth L i = some (blk b o)) (hk : Kept w w')
    (hb : w'.heap[b]? = some o') (hr : ∀ k, k ≠ b → k < w.heap.size → w'.heap[k]? = w.heap[k]?) : Sat W0 (sep (setN L i (blk b o'))) w' := by
  have s1 := s.mono (Ent.perm (perm_nth h))
  obtain ⟨k, x, hx, h1, h2, d, rfl, ha, hl⟩ := s1
  refine Sat.mono (Ent.perm (perm_setN h)) ⟨k.trans hk, Frag.join (fun k => if k = b then some o' else none) h2, ?_, _, h2, ?_, rfl, by simp [blk], hl⟩
  · have hdis : h2 b = none := by
      rcases d b with e | e
      · unfold blk at ha; rw [e] at ha; cases ha
      · exact e
    intro y u e
    unfold Frag.join at e
    by_cases hyb : y = b
    · subst hyb
      simp only [if_true] at e
      cases e
      exact hb
    · simp only [hyb, if_false] at e
      have hw := hx y u (Frag.le_join_right d y u e)
      have hlt : y < w.heap.size := by
        rcases Nat.lt_or_ge y w.heap.size with g | g
        · exact g
        · rw [Array.getElem?_eq_none g] at hw; cases hw
      rw [hr y hyb hlt]
      exact hw
  · intro y
    by_cases hyb : y = b
    · subst hyb
      rcases d y with e | e
      · unfold blk at ha; rw [e] at ha; cases ha
      · exact .inr e
    · left
      simp [hyb]
/-- More blocks. -/
theorem Sat.fresh {W0 w w' : World} {L : List Assn} {b : Nat} {o : Obj} (s : Sat W0 (sep L) w) (hk : Kept w w') (hb : w.heap.size ≤ b)
    (ho : w'.heap[b]? = some o) (hr : ∀ k, k < w.heap.size → w'.heap[k]? = w.heap[k]?) : Sat W0 (sep (blk b o :: L)) w' := by
  obtain ⟨k, x, hx, ha⟩ := s
  have hxs : ∀ y u, x y = some u → y < w.heap.size := fun y u e => by
    have hw := hx y u e
    rcases Nat.lt_or_ge y w.heap.size with g | g
    · exact g
    · rw [Array.getElem?_eq_none g] at hw; cases hw
  refine ⟨k.trans hk, Frag.join (fun k => if k = b then some o else none) x, ?_, _, x, ?_, rfl, by simp [blk], ha⟩
  · intro y u e
    unfold Frag.join at e
    by_cases hyb : y = b
    · subst hyb
      simp only [if_true] at e
      cases e
      exact ho
    · simp only [hyb, if_false] at e
      rw [hr y (hxs y u e)]
      exact hx y u e
  · intro y
    by_cases hyb : y = b
    · subst hyb
      right
      cases e : x y with
      | none => rfl
      | some u => have := hxs y u e; omega
    · left
      simp [hyb]
theorem Sat.same {W0 w w' : World} {A : Assn} (s : Sat W0 A w) (hk : Kept w w') (hr : ∀ k, k < w.heap.size → w'.heap[k]? = w.heap[k]?) : Sat W0 A w' := by
  obtain ⟨k, x, hx, ha⟩ := s
  refine ⟨k.trans hk, x, fun y u e => ?_, ha⟩
  have hw := hx y u e
  rw [hr y ?_]
  · exact hw
  · rcases Nat.lt_or_ge y w.heap.size with g | g
    · exact g
    · rw [Array.getElem?_eq_none g] at hw; cases hw
theorem Sat.drew {W0 w : World} {A : Assn} (s : Sat W0 A w) : Sat W0 A w.drew := s.same ⟨rfl, rfl, rfl, Nat.le_refl _⟩ (fun _ _ => rfl)
theorem Sat.alloc {W0 w : World} {L : List Assn} (s : Sat W0 (sep L) w) (o : Obj) : Sat W0 (sep (blk w.heap.size o :: L)) (w.alloc o) :=
  s.fresh ⟨rfl, rfl, rfl, by simp⟩ (Nat.le_refl _) (by show (w.heap.push o)[w.heap.size]? = _; simp) (fun k hk => by show (w.heap.push o)[k]? = _; rw [Array.getElem?_push, if_neg (by omega)])

/-! ### Assertions with quantifiers and facts -/
def ex {α : Type} (A : α → Assn) : Assn := fun h => ∃ x, A x h
theorem Ent.ex {α : Type} {A : α → Assn} (x : α) : Ent (A x) (Sl.ex A) := Ent.of_imp fun _ h => ⟨x, h⟩
theorem Sat.out {W0 w : World} {α : Type} {A : α → Assn} {L : List Assn} (s : Sat W0 (sep (Sl.ex A :: L)) w) : ∃ x, Sat W0 (sep (A x :: L)) w := by
  obtain ⟨k, y, hy, h1, h2, d, rfl, ⟨x, hx⟩, hl⟩ := s
  exact ⟨x, k, _, hy, h1, h2, d, rfl, hx, hl⟩
end Go.Sl
namespace Go.Sl
open Go

/-! ### Frames as functions -/
abbrev Env := Nat → Value
def upd (e : Env) (d : Nat) (v : Value) : Env := fun t => cond (Nat.beq t d) v (e t)
def updO (e : Env) : Option Nat → Value → Env
  | some d, v => upd e d v
  | none, _ => e
def envOf (l : List Value) : Env := fun t => (nth l t).getD undef
def ev (e : Env) : Operand → Value
  | .tmp t => e t
  | .const v => v
  | .global g => .pointer (some ⟨g, 0, none⟩)
  | .func f => .func (.func f) #[] #[]
structure EnvOk (N : Nat) (a : Act) (e : Env) : Prop where
  defers : a.defers = []
  size : a.tmps.size = N
  get : ∀ t, a.tmps.getD t undef = e t
theorem EnvOk.eval {N : Nat} {a : Act} {e : Env} (h : EnvOk N a e) : a.eval = ev e := by
  funext x
  cases x <;> simp only [Act.eval, ev]
  exact h.get _
theorem EnvOk.put {N : Nat} {a : Act} {e : Env} (h : EnvOk N a e) {d : Option Nat} (hd : ∀ x, d = some x → Nat.blt x N = true) (v : Value) : EnvOk N (a.put d v) (updO e d v) := by
  cases d with
  | none => exact h
  | some x =>
    have hx : x < N := by have := hd x rfl; simpa using this
    refine ⟨h.defers, ?_, fun t => ?_⟩
    · show (a.tmps.setIfInBounds x v).size = N
      rw [Array.size_setIfInBounds]; exact h.size
    · show (a.tmps.setIfInBounds x v).getD t undef = upd e x v t
      unfold upd
      by_cases htx : t = x
      · subst htx
        have : Nat.beq t t = true := by simp
        rw [this]
        simp [h.size, hx]
      · have : Nat.beq t x = false := by
          cases hb : Nat.beq t x with
          | false => rfl
          | true => exact absurd (Nat.eq_of_beq_eq_true hb) htx
        rw [this]
        have hne : x ≠ t := fun g => htx g.symm
        have := h.get t
        simp only [Array.getD_eq_getD_getElem?] at this ⊢
        rw [Array.getElem?_setIfInBounds_ne hne]
        exact this
theorem EnvOk.enter {args : List Value} {N : Nat} (h : args.length ≤ N) : EnvOk N { tmps := args.toArray ++ Array.replicate (N - args.toArray.size) undef, defers := [] } (envOf args) := by
  refine ⟨rfl, ?_, fun t => ?_⟩
  · simp; omega
  · unfold envOf
    have hn : ∀ (l : List Value) (t : Nat), nth l t = l[t]? := by
      intro l
      induction l with
      | nil => intro t; simp [nth]
      | cons x l ih => intro t; cases t <;> simp [nth, ih]
    rw [hn]
    simp only [Array.getD_eq_getD_getElem?]
    by_cases ht : t < args.length
    · rw [Array.getElem?_append_left (by simpa using ht)]
      simp
    · rw [Array.getElem?_append_right (by simpa using ht)]
      rw [List.getElem?_eq_none (by omega)]
      simp [Array.getElem?_replicate]
      split <;> rfl
/-- Which slots hold what. -/
def LiveIs (e : Env) : List (Nat × Value) → Prop
  | [] => True
  | (t, v) :: l => e t = v ∧ LiveIs e l
def updAll (e : Env) : List (Nat × Value) → Env
  | [] => e
  | (t, v) :: l => upd (updAll e l) t v
theorem live_eq {e : Env} : ∀ {l : List (Nat × Value)}, LiveIs e l → e = updAll e l
  | [], _ => rfl
  | (t, v) :: l, h => by
    have ih := live_eq h.2
    funext x
    show e x = upd (updAll e l) t v x
    rw [← ih]
    unfold upd
    cases hb : Nat.beq x t with
    | false => rfl
    | true => rw [Nat.eq_of_beq_eq_true hb]; exact h.1
theorem live_ex {e : Env} {l : List (Nat × Value)} (h : LiveIs e l) : ∃ e', e = updAll e' l := ⟨e, live_eq h⟩

/-! ### Code -/
abbrev Post := Exit → Env → List Assn → Prop
def T (P : Program) (N : Nat) (c : Code) (Q : Post) (e : Env) (Hs : List Assn) : Prop :=
  ∀ W0 a w, EnvOk N a e → Sat W0 (sep Hs) w → c.wp P (fun x a' w' => ∃ e' Hs', EnvOk N a' e' ∧ Sat W0 (sep Hs') w' ∧ Q x e' Hs') a w
def Post.seq (K : Env → List Assn → Prop) (Q : Post) : Post
  | .normal, e, H => K e H
  | x, e, H => Q x e H
def Post.block (id : Nat) (Q : Post) : Post
  | .exit id', e, H => if id' = id then Q .normal e H else Q (.exit id') e H
  | x, e, H => Q x e H
section code
variable {P : Program} {N : Nat} {Q Q' : Post} {e : Env} {Hs Hs' : List Assn}
theorem T.mono {c : Code} (h : T P N c Q e Hs) (k : ∀ x e H, Q x e H → Q' x e H) : T P N c Q' e Hs :=
  fun W0 a w ha hs => wp_mono (h W0 a w ha hs) fun _ _ _ ⟨e', H', h1, h2, h3⟩ => ⟨e', H', h1, h2, k _ _ _ h3⟩
theorem T.ent {c : Code} (k : Ent (sep Hs) (sep Hs')) (h : T P N c Q e Hs') : T P N c Q e Hs :=
  fun W0 a w ha hs => h W0 a w ha (hs.mono k)
theorem T.live {c : Code} (l : List (Nat × Value)) (hl : LiveIs e l) (h : ∀ e', T P N c Q (updAll e' l) Hs) : T P N c Q e Hs := by
  obtain ⟨e', rfl⟩ := live_ex hl
  exact h e'
theorem T.ex {c : Code} {α : Type} {A : α → Assn} {L : List Assn} (h : ∀ x, T P N c Q e (A x :: L)) : T P N c Q e (Sl.ex A :: L) :=
  fun W0 a w ha hs => let ⟨x, hx⟩ := hs.out; h x W0 a w ha hx
theorem T.skip (h : Q .normal e Hs) : T P N .skip Q e Hs := fun _ _ _ ha hs => wp_skip ⟨e, Hs, ha, hs, h⟩
theorem T.label {l : Nat} (h : Q .normal e Hs) : T P N (.label l) Q e Hs := fun _ _ _ ha hs => wp_label ⟨e, Hs, ha, hs, h⟩
theorem T.ret (h : Q .ret e Hs) : T P N .ret Q e Hs := fun _ _ _ ha hs => wp_ret ⟨e, Hs, ha, hs, h⟩
theorem T.exit {id : Nat} (h : Q (.exit id) e Hs) : T P N (.exit id) Q e Hs := fun _ _ _ ha hs => wp_exit ⟨e, Hs, ha, hs, h⟩
theorem T.seq {x y : Code} (h : ∀ K : Env → List Assn → Prop, (∀ e H, T P N y Q e H → K e H) → T P N x (Post.seq K Q) e Hs) : T P N (.seq x y) Q e Hs := by
  intro W0 a w ha hs
  have h1 := h (T P N y Q) (fun _ _ h => h) W0 a w ha hs
  refine wp_seq (wp_mono h1 ?_)
  rintro x a' w' ⟨e', H', h2, h3, h4⟩
  cases x with
  | normal => exact h4 W0 a' w' h2 h3
  | exit id => exact ⟨e', H', h2, h3, h4⟩
  | goto l => exact ⟨e', H', h2, h3, h4⟩
  | ret => exact ⟨e', H', h2, h3, h4⟩
  | panic c => exact ⟨e', H', h2, h3, h4⟩
  | outgrown => exact ⟨e', H', h2, h3, h4⟩
theorem T.cond {c : Operand} {x y : Code} {t : Bool} (hc : ev e c = .bool t) (ht : t = true → T P N x Q e Hs) (hf : t = false → T P N y Q e Hs) : T P N (.cond c x y) Q e Hs := by
  intro W0 a w ha hs
  have hc' : a.eval c = .bool t := by rw [ha.eval]; exact hc
  exact wp_cond_split hc' (fun h => ht h W0 a w ha hs) (fun h => hf h W0 a w ha hs)
theorem T.cond_dec {c : Operand} {x y : Code} {p : Prop} [Decidable p] (hc : ev e c = .bool (decide p)) (ht : p → T P N x Q e Hs) (hf : ¬ p → T P N y Q e Hs) : T P N (.cond c x y) Q e Hs :=
  T.cond hc (fun h => ht (of_decide_eq_true h)) (fun h => hf (of_decide_eq_false h))
theorem T.block {id : Nat} {c : Code} (h : T P N c (Post.block id Q) e Hs) : T P N (.block id c) Q e Hs := by
  intro W0 a w ha hs
  refine wp_block (wp_mono (h W0 a w ha hs) ?_)
  rintro x a' w' ⟨e', H', h2, h3, h4⟩
  cases x with
  | exit id' =>
    simp only [Exit.inBlock, Post.block] at h4 ⊢
    split
    · rename_i g; simp only [g, if_true] at h4; exact ⟨e', H', h2, h3, h4⟩
    · rename_i g; simp only [g, if_false] at h4; exact ⟨e', H', h2, h3, h4⟩
  | normal => exact ⟨e', H', h2, h3, h4⟩
  | goto l => exact ⟨e', H', h2, h3, h4⟩
  | ret => exact ⟨e', H', h2, h3, h4⟩
  | panic c => exact ⟨e', H', h2, h3, h4⟩
  | outgrown => exact ⟨e', H', h2, h3, h4⟩
/-- A loop: what stands at its head is told by g: which slots hold what, what is owned, what holds of g; a round lowers the measure. -/
theorem T.loop {G : Type} {c : Code} (inv : G → Prop) (live : G → List (Nat × Value)) (res : G → List Assn) (mu : G → Nat) (g0 : G)
    (h0 : inv g0) (hl : LiveIs e (live g0)) (he : Ent (sep Hs) (sep (res g0)))
    (round : ∀ g e', inv g → T P N c (Post.seq (fun e1 H1 => ∃ g', inv g' ∧ mu g' < mu g ∧ LiveIs e1 (live g') ∧ Ent (sep H1) (sep (res g'))) Q) (updAll e' (live g)) (res g)) :
    T P N (.loop c) Q e Hs := by
  intro W0 a w ha hs
  let mea : Act → World → Nat → Prop := fun a w n => ∃ g e', inv g ∧ EnvOk N a (updAll e' (live g)) ∧ Sat W0 (sep (res g)) w ∧ mu g = n
  have key : ∀ n a w, mea a w n → ∀ (b : Frame) (k : List Item) (cs : List Frame), ∃ x a' w', (∃ e' Hs', EnvOk N a' e' ∧ Sat W0 (sep Hs') w' ∧ Q x e' Hs') ∧
      Arrives P (lone (b.at a (.code c :: .inLoop c :: k)) cs w) b k cs x a' w' := by
    intro n
    induction n using Nat.strongRecOn with
    | _ n ih =>
      rintro a w ⟨g, e', hi, hok, hsat, rfl⟩ b k cs
      obtain ⟨x, a1, w1, hq, harr⟩ := round g e' hi W0 a w hok hsat b (.inLoop c :: k) cs
      obtain ⟨e1, H1, h1, h2, h3⟩ := hq
      cases x with
      | normal =>
        obtain ⟨g', hi', hlt, hl', he'⟩ := h3
        obtain ⟨e2, rfl⟩ := live_ex hl'
        obtain ⟨x2, a2, w2, hq2, harr2⟩ := ih (mu g') hlt a1 w1 ⟨g', e2, hi', h1, h2.mono he', rfl⟩ b k cs
        exact ⟨x2, a2, w2, hq2, .of_steps (Steps.trans harr (.one step_inLoop)) harr2⟩
      | exit id => exact ⟨_, a1, w1, ⟨e1, H1, h1, h2, h3⟩, .pass (x := .inLoop c) rfl (fun _ _ => .inl (by simp)) harr⟩
      | goto l => exact ⟨_, a1, w1, ⟨e1, H1, h1, h2, h3⟩, .pass (x := .inLoop c) rfl (fun _ _ => .inl (by simp)) harr⟩
      | ret => exact ⟨_, a1, w1, ⟨e1, H1, h1, h2, h3⟩, .pass (x := .inLoop c) rfl (fun _ _ => .inl (by simp)) harr⟩
      | panic ch => exact ⟨_, a1, w1, ⟨e1, H1, h1, h2, h3⟩, .pass (x := .inLoop c) rfl (fun _ _ => .inl (by simp)) harr⟩
      | outgrown => exact ⟨_, a1, w1, ⟨e1, H1, h1, h2, h3⟩, .pass (x := .inLoop c) rfl (fun _ _ => .inl (by simp)) harr⟩
  obtain ⟨e', rfl⟩ := live_ex hl
  intro b k cs
  obtain ⟨x2, a2, w2, hq2, harr2⟩ := key _ a w ⟨g0, e', h0, ha, hs.mono he, rfl⟩ b k cs
  exact ⟨x2, a2, w2, hq2, .of_steps (.one step_loop) harr2⟩
end code
end Go.Sl
namespace Go.Sl
open Go

/-! ### An order that is drawn: what is quiet may be taken first -/
inductive Kd3 where
  | pure | load | eff
section orders
variable {P : Program} {ops : Array Oper} {Q : Exit → Act → World → Prop} {md : Region.Mode} {S : World → Prop} {z : Nat}
/-- Whatever order is picked from here on; S holds till z has come up. -/
def wpAnyG (P : Program) (md : Region.Mode) (ops : Array Oper) (Q : Exit → Act → World → Prop) (S : World → Prop) (z : Nat) : Nat → Array Bool → Act → World → Prop
  | 0, listed, a, w => Region.ready md ops listed = [] ∧ Q .normal a w
  | fuel + 1, listed, a, w =>
    (Region.ready md ops listed = [] → Q .normal a w) ∧
    ∀ i ∈ Region.ready md ops listed, wpOp P ops Q i (fun a' w' => (S w' ∨ (listed.setIfInBounds i true).getD z false = true) ∧ wpAnyG P md ops Q S z fuel (listed.setIfInBounds i true) a' w') a w
theorem wpAny_of_G : ∀ (fuel : Nat) (listed : Array Bool) (a : Act) (w : World), wpAnyG P md ops Q S z fuel listed a w → wpAny P md ops Q fuel listed a w
  | 0, _, _, _, h => h
  | fuel + 1, _, _, _, h => ⟨h.1, fun i hi => wpOp_mono (fun a' w' h' => wpAny_of_G fuel _ a' w' h'.2) (h.2 i hi)⟩
/-- z waits for i. -/
def waits (md : Region.Mode) (ops : Array Oper) (z i : Nat) : Prop := z ≠ i ∧ ∀ oz, ops[z]? = some oz → ∃ e ∈ oz.after, Region.binds md e = true ∧ e.on = i
theorem wpAnyG_load {i : Nat} {oi : Oper} {v : Value} (hi : ops[i]? = some oi) (hsel : ∀ (j : Nat) (o : Oper) cs b, ops[j]? = some o → o.op ≠ .select cs b)
    (hQ : ∀ c a w, Q (.panic c) (a.put oi.dst v) w → Q (.panic c) a w) (hz : waits md ops z i) :
    ∀ (fuel : Nat) (listed : Array Bool) (a : Act) (w : World),
      (∀ j oj, ops[j]? = some oj → j ≠ i → listed.getD j true = false → (∀ e ∈ oj.after, Region.binds md e = true → e.on ≠ i) → oi.apart ops oj = true) →
      i ∈ Region.ready md ops listed → listed.getD z false = false → YieldsIf P ops S oi v a → S w →
      wpAnyG P md ops Q S z fuel (listed.setIfInBounds i true) (a.put oi.dst v) w → wpAnyG P md ops Q S z (fuel + 1) listed a w := by
  intro fuel
  induction fuel with
  | zero =>
    intro listed a w _ hr _ hy hS H
    refine ⟨fun h => (by rw [h] at hr; cases hr), fun j hj => ?_⟩
    by_cases hji : j = i
    · subst hji; exact hy.wpOp hi hS ⟨.inl hS, H⟩
    · have := ready_mono hj hji
      rw [H.1] at this
      cases this
  | succ fuel ih =>
    intro listed a w hfree hr hzl hy hS H
    refine ⟨fun h => (by rw [h] at hr; cases hr), fun j hj => ?_⟩
    by_cases hji : j = i
    · subst hji; exact hy.wpOp hi hS ⟨.inl hS, H⟩
    · have h1 := H.2 j (ready_mono hj hji)
      obtain ⟨hjun, oj, hoj, hall⟩ := mem_ready.1 hj
      have hnot : ∀ e ∈ oj.after, Region.binds md e = true → e.on ≠ i := fun e he hb heq => by
        have h1 := hall e he hb
        have h0 := (mem_ready.1 hr).1
        rw [heq] at h1
        rcases Nat.lt_or_ge i listed.size with h' | h'
        · simp [h'] at h0 h1; rw [h0] at h1; cases h1
        · simp [Array.getElem?_eq_none h'] at h1
      have hjz : j ≠ z := fun g => by
        subst g
        obtain ⟨e, he, hb, hon⟩ := hz.2 oj hoj
        exact hnot e he hb hon
      have hlz : (listed.setIfInBounds j true).getD z false = false := by rw [getD_set_ne false hjz]; exact hzl
      have hlz2 : ((listed.setIfInBounds i true).setIfInBounds j true).getD z false = false := by
        rw [getD_set_ne false hjz, getD_set_ne false (Ne.symm hz.1)]; exact hzl
      have h2 := wpOp_putIf hoj (hfree j oj hoj hji hjun hnot) (fun cs b => hsel i oi cs b hi) (fun cs b => hsel j oj cs b hoj) hQ hy h1
      have hfree' : ∀ k ok, ops[k]? = some ok → k ≠ i → (listed.setIfInBounds j true).getD k true = false →
          (∀ e ∈ ok.after, Region.binds md e = true → e.on ≠ i) → oi.apart ops ok = true := fun k ok hk hki hun hno => by
        refine hfree k ok hk hki ?_ hno
        by_cases hjk : j = k
        · subst hjk; exact hjun
        · rw [getD_set_ne true hjk] at hun; exact hun
      refine wpOp_mono (fun a' w' h3 => ?_) h2
      have hS' : S w' := h3.2.1.resolve_right (by rw [hlz2]; simp)
      refine ⟨.inl hS', ih (listed.setIfInBounds j true) a' w' hfree' (ready_mono hr (Ne.symm hji)) hlz h3.1 hS' ?_⟩
      rw [Array.setIfInBounds_comm _ _ hji]
      exact h3.2.2
theorem getD_false_set {listed : Array Bool} {i j : Nat} (h : listed.getD j false = true) : (listed.setIfInBounds i true).getD j false = true := getD_set_true h
theorem wpAnyG_pure {i : Nat} {oi : Oper} {v : Value} (hi : ops[i]? = some oi) (hsel : ∀ (j : Nat) (o : Oper) cs b, ops[j]? = some o → o.op ≠ .select cs b)
    (hQ : ∀ c a w, Q (.panic c) (a.put oi.dst v) w → Q (.panic c) a w) (hiz : i ≠ z) :
    ∀ (fuel : Nat) (listed : Array Bool) (a : Act) (w : World),
      (∀ j oj, ops[j]? = some oj → j ≠ i → listed.getD j true = false → (∀ e ∈ oj.after, Region.binds md e = true → e.on ≠ i) → oi.apart ops oj = true) →
      i ∈ Region.ready md ops listed → Yields P ops oi v a → (S w ∨ listed.getD z false = true) →
      wpAnyG P md ops Q S z fuel (listed.setIfInBounds i true) (a.put oi.dst v) w → wpAnyG P md ops Q S z (fuel + 1) listed a w := by
  intro fuel
  induction fuel with
  | zero =>
    intro listed a w _ hr hy hS H
    refine ⟨fun h => (by rw [h] at hr; cases hr), fun j hj => ?_⟩
    by_cases hji : j = i
    · subst hji; exact hy.wpOp hi ⟨hS.imp id getD_false_set, H⟩
    · have := ready_mono hj hji
      rw [H.1] at this
      cases this
  | succ fuel ih =>
    intro listed a w hfree hr hy hS H
    refine ⟨fun h => (by rw [h] at hr; cases hr), fun j hj => ?_⟩
    by_cases hji : j = i
    · subst hji; exact hy.wpOp hi ⟨hS.imp id getD_false_set, H⟩
    · have h1 := H.2 j (ready_mono hj hji)
      obtain ⟨hjun, oj, hoj, hall⟩ := mem_ready.1 hj
      have hnot : ∀ e ∈ oj.after, Region.binds md e = true → e.on ≠ i := fun e he hb heq => by
        have h1 := hall e he hb
        have h0 := (mem_ready.1 hr).1
        rw [heq] at h1
        rcases Nat.lt_or_ge i listed.size with h' | h'
        · simp [h'] at h0 h1; rw [h0] at h1; cases h1
        · simp [Array.getElem?_eq_none h'] at h1
      have h2 := wpOp_put hoj (hfree j oj hoj hji hjun hnot) (fun cs b => hsel i oi cs b hi) (fun cs b => hsel j oj cs b hoj) hQ hy h1
      have hfree' : ∀ k ok, ops[k]? = some ok → k ≠ i → (listed.setIfInBounds j true).getD k true = false →
          (∀ e ∈ ok.after, Region.binds md e = true → e.on ≠ i) → oi.apart ops ok = true := fun k ok hk hki hun hno => by
        refine hfree k ok hk hki ?_ hno
        by_cases hjk : j = k
        · subst hjk; exact hjun
        · rw [getD_set_ne true hjk] at hun; exact hun
      refine wpOp_mono (fun a' w' h3 => ?_) h2
      have hS' : S w' ∨ (listed.setIfInBounds j true).getD z false = true := by
        rcases h3.2.1 with g | g
        · exact .inl g
        · right
          rw [Array.setIfInBounds_comm _ _ (Ne.symm hji), getD_set_ne false hiz] at g
          exact g
      refine ⟨hS', ih (listed.setIfInBounds j true) a' w' hfree' (ready_mono hr (Ne.symm hji)) h3.1 hS' ?_⟩
      rw [Array.setIfInBounds_comm _ _ hji]
      exact h3.2.2

/-- The region, operation by operation, in an order that is told: what is pure or loads, and what does something. -/
def wpX (P : Program) (ops : Array Oper) (S : World → Prop) (z : Nat) (Qn : Act → World → Prop) : List (Nat × Kd3) → Act → World → Prop
  | [], a, w => Qn a w
  | (i, .pure) :: l, a, w => ∃ o v, ops[i]? = some o ∧ Yields P ops o v a ∧ wpX P ops S z Qn l (a.put o.dst v) w
  | (i, .load) :: l, a, w => ∃ o v, ops[i]? = some o ∧ YieldsIf P ops S o v a ∧ S w ∧ wpX P ops S z Qn l (a.put o.dst v) w
  | (i, .eff) :: l, a, w => wpOp P ops (fun _ _ _ => False) i (fun a' w' => (S w' ∨ i = z) ∧ wpX P ops S z Qn l a' w') a w
def waitsB (md : Region.Mode) (ops : Array Oper) (z i : Nat) : Bool :=
  !(Nat.beq z i) && match ops[z]? with
    | none => true
    | some oz => oz.after.any fun e => Region.binds md e && Nat.beq e.on i
theorem waitsB_spec {i : Nat} (h : waitsB md ops z i = true) : waits md ops z i := by
  unfold waitsB at h
  simp only [Bool.and_eq_true, Bool.not_eq_true'] at h
  refine ⟨fun g => by rw [g] at h; simp at h, fun oz hoz => ?_⟩
  rw [hoz] at h
  obtain ⟨e, he, hb⟩ := Array.any_eq_true'.1 h.2
  simp only [Bool.and_eq_true] at hb
  exact ⟨e, he, hb.1, Nat.eq_of_beq_eq_true hb.2⟩
/-- Is the order one that may be walked for all? -/
def ordOk (md : Region.Mode) (ops : Array Oper) (z : Nat) : List (Nat × Kd3) → Array Bool → Bool
  | [], listed => (Region.ready md ops listed).isEmpty
  | (i, .pure) :: l, listed => (Region.ready md ops listed).contains i && Region.free md ops listed i && !(Nat.beq i z) && ordOk md ops z l (listed.setIfInBounds i true)
  | (i, .load) :: l, listed => (Region.ready md ops listed).contains i && Region.free md ops listed i && waitsB md ops z i && !(listed.getD z false) && ordOk md ops z l (listed.setIfInBounds i true)
  | (i, .eff) :: l, listed => (match Region.ready md ops listed with | [j] => Nat.beq i j && Nat.blt i listed.size | _ => false) && ordOk md ops z l (listed.setIfInBounds i true)
theorem wpX_G {Qn : Act → World → Prop} (hs : Region.noSelect ops = true) : ∀ (l : List (Nat × Kd3)) (listed : Array Bool) (a : Act) (w : World),
    ordOk md ops z l listed = true → (S w ∨ listed.getD z false = true) → wpX P ops S z Qn l a w →
    wpAnyG P md ops (fun x a w => x = .normal ∧ Qn a w) S z l.length listed a w
  | [], listed, a, w, ho, _, h => ⟨by simpa [ordOk] using ho, rfl, h⟩
  | (i, .pure) :: l, listed, a, w, ho, hS, h => by
    simp only [ordOk, Bool.and_eq_true, Bool.not_eq_true'] at ho
    obtain ⟨⟨⟨hr, hf⟩, hiz⟩, ho⟩ := ho
    obtain ⟨o, v, hi, hy, hn⟩ := h
    refine wpAnyG_pure hi (Region.noSelect_spec hs) (fun c a w hh => by cases hh.1) (fun g => by rw [g] at hiz; simp at hiz) l.length listed a w (Region.free_spec hi hf) (by simpa using hr) hy hS ?_
    exact wpX_G hs l _ _ _ ho (hS.imp id getD_false_set) hn
  | (i, .load) :: l, listed, a, w, ho, hS, h => by
    simp only [ordOk, Bool.and_eq_true, Bool.not_eq_true'] at ho
    obtain ⟨⟨⟨⟨hr, hf⟩, hw⟩, hlz⟩, ho⟩ := ho
    obtain ⟨o, v, hi, hy, hSw, hn⟩ := h
    refine wpAnyG_load hi (Region.noSelect_spec hs) (fun c a w hh => by cases hh.1) (waitsB_spec hw) l.length listed a w (Region.free_spec hi hf) (by simpa using hr) hlz hy hSw ?_
    exact wpX_G hs l _ _ _ ho (.inl hSw) hn
  | (i, .eff) :: l, listed, a, w, ho, hS, h => by
    simp only [ordOk, Bool.and_eq_true] at ho
    obtain ⟨hr, ho⟩ := ho
    have hrr : Region.ready md ops listed = [i] ∧ i < listed.size := by
      split at hr
      · rename_i j hj
        simp only [Bool.and_eq_true] at hr
        rw [hj, Nat.eq_of_beq_eq_true hr.1]
        refine ⟨rfl, by have := hr.2; rw [Nat.eq_of_beq_eq_true hr.1] at this; simpa using this⟩
      · cases hr
    refine ⟨fun h0 => (by rw [hrr.1] at h0; cases h0), fun j hj => ?_⟩
    rw [hrr.1] at hj
    simp only [List.mem_singleton] at hj
    subst hj
    unfold wpX at h
    have hq : ∀ K : Act → World → Prop, wpOp P ops (fun _ _ _ => False) j K a w → wpOp P ops (fun x a w => x = .normal ∧ Qn a w) j K a w := by
      intro K
      unfold wpOp
      split
      · exact id
      · split
        · intro hh
          rcases hh with hh | ⟨_, _, _, hh⟩
          · left
            unfold Oper.wp at *
            generalize (execOp a.eval _).run P w = r at *
            cases r with
            | ok n w' =>
              cases n <;> simp only [Oper.upon] at hh ⊢ <;> first
                | exact hh
                | (refine Calls.mono hh fun e w'' he => ?_
                   cases e with
                   | returned u => exact he
                   | panicked c => exact he.elim
                   | outgrown => obtain ⟨_, _, he⟩ := he; exact he.elim)
            | halt x w' => cases x <;> simp only [Oper.upon] at hh ⊢
          · exact hh.elim
        · exact id
    refine hq _ (wpOp_mono (fun a' w' h3 => ?_) h)
    have hS' : S w' ∨ (listed.setIfInBounds j true).getD z false = true := by
      rcases h3.1 with g | g
      · exact .inl g
      · right; subst g; simp [hrr.2]
    exact ⟨hS', wpX_G hs l _ _ _ ho hS' h3.2⟩
end orders
theorem wpX_region {P : Program} {id z : Nat} {ops : Array Oper} {S : World → Prop} {Qn : Act → World → Prop} {a : Act} {w : World} {l : List (Nat × Kd3)} (hm : P.follows .mixedOrders = true)
    (hs : Region.noSelect ops = true) (hl : l.length = ops.size) (ho : ordOk .any ops z l (Array.replicate ops.size false) = true) (hS : S w.drew)
    (h : wpX P ops S z Qn l a w.drew) : (Code.region id ops true).wp P (fun x a w => x = .normal ∧ Qn a w) a w := by
  refine wp_region_any hm (wpAny_of_G (S := S) (z := z) _ _ _ _ ?_)
  rw [← hl]
  exact wpX_G hs l _ _ _ (by rw [hl]; exact ho) (.inl hS) h
end Go.Sl
