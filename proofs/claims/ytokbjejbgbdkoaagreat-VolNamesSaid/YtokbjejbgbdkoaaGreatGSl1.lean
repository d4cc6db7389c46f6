/-
  A small separation logic over the model's worlds. It proves nothing of the program by itself.
-/
import Derived.Calls
import Derived.Orders
import Derived.OrdersHeld
import Derived.Still
import Derived.Below
set_option linter.unusedVariables false
set_option linter.unusedSimpArgs false
namespace Go.Sl
open Go

abbrev Frag := Nat → Option Obj
abbrev Assn := Frag → Prop

def Frag.disj (h k : Frag) : Prop := ∀ b, h b = none ∨ k b = none
def Frag.join (h k : Frag) : Frag := fun b => match h b with | some o => some o | none => k b
def Frag.le (h k : Frag) : Prop := ∀ b o, h b = some o → k b = some o

theorem Frag.le_refl (h : Frag) : Frag.le h h := fun _ _ x => x
theorem Frag.le_trans {a b c : Frag} (h : Frag.le a b) (k : Frag.le b c) : Frag.le a c := fun x o y => k x o (h x o y)
theorem Frag.disj_symm {h k : Frag} (d : Frag.disj h k) : Frag.disj k h := fun b => (d b).symm
theorem Frag.join_comm {h k : Frag} (d : Frag.disj h k) : Frag.join h k = Frag.join k h := by
  funext b
  unfold Frag.join
  rcases d b with e | e <;> rw [e]
  · cases k b <;> rfl
  · cases h b <;> rfl
theorem Frag.join_assoc (a b c : Frag) : Frag.join (Frag.join a b) c = Frag.join a (Frag.join b c) := by
  funext x
  unfold Frag.join
  cases a x <;> rfl
theorem Frag.le_join_left (h k : Frag) : Frag.le h (Frag.join h k) := by
  intro b o e
  unfold Frag.join
  rw [e]
theorem Frag.le_join_right {h k : Frag} (d : Frag.disj h k) : Frag.le k (Frag.join h k) := by
  rw [Frag.join_comm d]
  exact Frag.le_join_left _ _
theorem Frag.disj_join {a b c : Frag} : Frag.disj (Frag.join a b) c ↔ Frag.disj a c ∧ Frag.disj b c := by
  unfold Frag.disj Frag.join
  constructor
  · intro h
    refine ⟨fun x => ?_, fun x => ?_⟩
    · rcases h x with e | e
      · left
        cases ha : a x with
        | none => rfl
        | some o => rw [ha] at e; cases e
      · exact .inr e
    · rcases h x with e | e
      · left
        cases ha : a x with
        | none => rw [ha] at e; exact e
        | some o => rw [ha] at e; cases e
      · exact .inr e
  · rintro ⟨h1, h2⟩ x
    rcases h1 x with e | e
    · rw [e]; exact h2 x
    · exact .inr e
theorem Frag.disj_join_right {a b c : Frag} : Frag.disj c (Frag.join a b) ↔ Frag.disj c a ∧ Frag.disj c b :=
  ⟨fun h => ⟨Frag.disj_symm (Frag.disj_join.1 (Frag.disj_symm h)).1, Frag.disj_symm (Frag.disj_join.1 (Frag.disj_symm h)).2⟩,
   fun h => Frag.disj_symm (Frag.disj_join.2 ⟨Frag.disj_symm h.1, Frag.disj_symm h.2⟩)⟩
theorem Frag.disj_le {a a' b b' : Frag} (d : Frag.disj a b) (h : Frag.le a' a) (k : Frag.le b' b) : Frag.disj a' b' := by
  intro x
  cases ha : a' x with
  | none => exact .inl rfl
  | some o =>
    right
    cases hb : b' x with
    | none => rfl
    | some o' =>
      have h1 := h x o ha
      have h2 := k x o' hb
      rcases d x with e | e
      · rw [e] at h1; cases h1
      · rw [e] at h2; cases h2
theorem Frag.join_le {a a' b b' : Frag} (d : Frag.disj a b) (h : Frag.le a' a) (k : Frag.le b' b) : Frag.le (Frag.join a' b') (Frag.join a b) := by
  intro x o e
  unfold Frag.join at e
  cases ha : a' x with
  | some o' => rw [ha] at e; cases e; exact Frag.le_join_left _ _ x _ (h x _ ha)
  | none => rw [ha] at e; exact Frag.le_join_right d x _ (k x _ e)

/-- The assertions of a list, of fragments apart. -/
def sep : List Assn → Assn
  | [] => fun _ => True
  | A :: L => fun h => ∃ h1 h2, Frag.disj h1 h2 ∧ h = Frag.join h1 h2 ∧ A h1 ∧ sep L h2

/-- Block b holds o. -/
def blk (b : Nat) (o : Obj) : Assn := fun h => h b = some o

/-- From A follows B (of a part of it). -/
def Ent (A B : Assn) : Prop := ∀ h, A h → ∃ h', Frag.le h' h ∧ B h'

theorem Ent.refl (A : Assn) : Ent A A := fun h x => ⟨h, Frag.le_refl h, x⟩
theorem Ent.trans {A B C : Assn} (h : Ent A B) (k : Ent B C) : Ent A C := fun x hx =>
  let ⟨y, h1, hy⟩ := h x hx
  let ⟨z, h2, hz⟩ := k y hy
  ⟨z, Frag.le_trans h2 h1, hz⟩
theorem Ent.of_imp {A B : Assn} (h : ∀ x, A x → B x) : Ent A B := fun x hx => ⟨x, Frag.le_refl x, h x hx⟩
theorem Ent.of_eq {A B : Assn} (h : A = B) : Ent A B := h ▸ Ent.refl A
theorem Ent.cons {A B : Assn} {L M : List Assn} (h : Ent A B) (k : Ent (sep L) (sep M)) : Ent (sep (A :: L)) (sep (B :: M)) := by
  rintro x ⟨h1, h2, d, rfl, ha, hl⟩
  obtain ⟨h1', l1, hb⟩ := h h1 ha
  obtain ⟨h2', l2, hm⟩ := k h2 hl
  exact ⟨Frag.join h1' h2', Frag.join_le d l1 l2, h1', h2', Frag.disj_le d l1 l2, rfl, hb, hm⟩
theorem Ent.nil (A : Assn) : Ent A (sep []) := fun h _ => ⟨h, Frag.le_refl h, trivial⟩
theorem Ent.drop (A : Assn) (L : List Assn) : Ent (sep (A :: L)) (sep L) := by
  rintro x ⟨h1, h2, d, rfl, _, hl⟩
  exact ⟨h2, Frag.le_join_right d, hl⟩
theorem Ent.head (A : Assn) (L : List Assn) : Ent (sep (A :: L)) A := by
  rintro x ⟨h1, h2, _, rfl, ha, _⟩
  exact ⟨h1, Frag.le_join_left _ _, ha⟩
theorem Ent.one {A : Assn} : Ent A (sep [A]) := fun h x =>
  ⟨h, Frag.le_refl h, h, fun _ => none, fun _ => .inr rfl, by funext b; unfold Frag.join; cases h b <;> rfl, x, trivial⟩
theorem Ent.swap (A B : Assn) (L : List Assn) : Ent (sep (A :: B :: L)) (sep (B :: A :: L)) := by
  apply Ent.of_imp
  rintro x ⟨h1, h2, d, rfl, ha, h3, h4, d', rfl, hb, hl⟩
  have d1 := Frag.disj_join_right.1 d
  refine ⟨h3, Frag.join h1 h4, Frag.disj_join_right.2 ⟨Frag.disj_symm d1.1, d'⟩, ?_, hb, h1, h4, d1.2, rfl, ha, hl⟩
  rw [← Frag.join_assoc, Frag.join_comm d1.1, Frag.join_assoc]
theorem Ent.perm {L M : List Assn} (h : L.Perm M) : Ent (sep L) (sep M) := by
  induction h with
  | nil => exact Ent.refl _
  | cons x _ ih => exact Ent.cons (Ent.refl x) ih
  | swap x y l => exact Ent.swap y x l
  | trans _ _ ih1 ih2 => exact ih1.trans ih2
theorem Ent.flat (L M : List Assn) : Ent (sep (sep L :: M)) (sep (L ++ M)) := by
  induction L with
  | nil => exact Ent.drop _ _
  | cons A L ih =>
    rintro x ⟨h1, h2, d, rfl, ⟨h3, h4, d', rfl, ha, hl⟩, hm⟩
    have d1 := Frag.disj_join.1 d
    obtain ⟨y, hy, hs⟩ := ih (Frag.join h4 h2) ⟨h4, h2, d1.2, rfl, hl, hm⟩
    have d2 : Frag.disj h3 (Frag.join h4 h2) := Frag.disj_join_right.2 ⟨d', d1.1⟩
    refine ⟨Frag.join h3 y, ?_, h3, y, Frag.disj_le d2 (Frag.le_refl _) hy, rfl, ha, hs⟩
    rw [Frag.join_assoc]
    exact Frag.join_le d2 (Frag.le_refl _) hy
theorem Ent.unflat (L M : List Assn) : Ent (sep (L ++ M)) (sep (sep L :: M)) := by
  induction L with
  | nil =>
    intro x hx
    exact ⟨x, Frag.le_refl x, fun _ => none, x, fun _ => .inl rfl, rfl, trivial, hx⟩
  | cons A L ih =>
    rintro x ⟨h3, h4, d, rfl, ha, hl⟩
    obtain ⟨y, hy, h5, h6, d', rfl, hs, hm⟩ := ih h4 hl
    have d2 : Frag.disj h3 (Frag.join h5 h6) := Frag.disj_le d (Frag.le_refl _) hy
    have d3 := Frag.disj_join_right.1 d2
    refine ⟨Frag.join h3 (Frag.join h5 h6), Frag.join_le d (Frag.le_refl _) hy, Frag.join h3 h5, h6, Frag.disj_join.2 ⟨d3.2, d'⟩, (Frag.join_assoc _ _ _).symm, ⟨h3, h5, d3.1, rfl, ha, hs⟩, hm⟩
theorem Ent.append {L L' M M' : List Assn} (h : Ent (sep L) (sep L')) (k : Ent (sep M) (sep M')) : Ent (sep (L ++ M)) (sep (L' ++ M')) :=
  (Ent.unflat L M).trans ((Ent.cons h k).trans (Ent.flat L' M'))

/-- Number i of a list. -/
def nth {α : Type} : List α → Nat → Option α
  | [], _ => none
  | a :: _, 0 => some a
  | _ :: l, n + 1 => nth l n
def setN {α : Type} : List α → Nat → α → List α
  | [], _, _ => []
  | _ :: l, 0, b => b :: l
  | a :: l, n + 1, b => a :: setN l n b
def delN {α : Type} : List α → Nat → List α
  | [], _ => []
  | _ :: l, 0 => l
  | a :: l, n + 1 => a :: delN l n
theorem perm_nth {α : Type} : ∀ {L : List α} {i : Nat} {a : α}, nth L i = some a → L.Perm (a :: delN L i)
  | [], _, _, h => by cases h
  | b :: L, 0, a, h => by simp only [nth, Option.some.injEq] at h; subst h; exact List.Perm.refl _
  | b :: L, i + 1, a, h => (List.Perm.cons b (perm_nth (L := L) (i := i) h)).trans (List.Perm.swap a b _)
theorem perm_setN {α : Type} : ∀ {L : List α} {i : Nat} {a b : α}, nth L i = some a → (b :: delN L i).Perm (setN L i b)
  | [], _, _, _, h => by cases h
  | c :: L, 0, a, b, h => List.Perm.refl _
  | c :: L, i + 1, a, b, h => (List.Perm.swap c b _).trans (List.Perm.cons c (perm_setN (L := L) (i := i) h))
/-- The members of these numbers (each counted in what is left), and what is left. -/
def pull {α : Type} : List Nat → List α → Option (List α × List α)
  | [], L => some ([], L)
  | i :: is, L => match nth L i with
    | none => none
    | some x => match pull is (delN L i) with
      | none => none
      | some (xs, r) => some (x :: xs, r)
theorem perm_pull {α : Type} : ∀ {is : List Nat} {L A R : List α}, pull is L = some (A, R) → L.Perm (A ++ R)
  | [], L, A, R, h => by
    simp only [pull, Option.some.injEq, Prod.mk.injEq] at h
    obtain ⟨rfl, rfl⟩ := h
    exact List.Perm.refl _
  | i :: is, L, A, R, h => by
    simp only [pull] at h
    cases hn : nth L i with
    | none => rw [hn] at h; cases h
    | some x =>
      rw [hn] at h
      simp only at h
      cases hp : pull is (delN L i) with
      | none => rw [hp] at h; cases h
      | some q =>
        obtain ⟨xs, r⟩ := q
        rw [hp] at h
        simp only [Option.some.injEq, Prod.mk.injEq] at h
        obtain ⟨rfl, rfl⟩ := h
        exact (perm_nth hn).trans (List.Perm.cons x (perm_pull hp))
theorem Ent.pull {is : List Nat} {L A R : List Assn} (h : pull is L = some (A, R)) : Ent (sep L) (sep (A ++ R)) := Ent.perm (perm_pull h)
theorem Ent.pull_drop {is : List Nat} {L A R : List Assn} (h : Sl.pull is L = some (A, R)) : Ent (sep L) (sep A) := by
  refine (Ent.pull h).trans ((Ent.unflat A R).trans ?_)
  exact Ent.head _ _

/-! ### Worlds -/
structure Kept (W0 w : World) : Prop where
  os : w.os = W0.os
  tape : w.tape = W0.tape
  output : w.output = W0.output
  size : W0.heap.size ≤ w.heap.size
theorem Kept.refl (w : World) : Kept w w := ⟨rfl, rfl, rfl, Nat.le_refl _⟩
theorem Kept.trans {a b c : World} (h : Kept a b) (k : Kept b c) : Kept a c :=
  ⟨k.os.trans h.os, k.tape.trans h.tape, k.output.trans h.output, Nat.le_trans h.size k.size⟩

def within (h : Frag) (w : World) : Prop := ∀ b o, h b = some o → w.heap[b]? = some o
def Sat (W0 : World) (A : Assn) (w : World) : Prop := Kept W0 w ∧ ∃ h, within h w ∧ A h

theorem Sat.mono {W0 w : World} {A B : Assn} (h : Ent A B) (s : Sat W0 A w) : Sat W0 B w := by
  obtain ⟨k, x, hx, ha⟩ := s
  obtain ⟨y, hy, hb⟩ := h x ha
  exact ⟨k, y, fun b o e => hx b o (hy b o e), hb⟩
theorem Sat.get {W0 w : World} {L : List Assn} {i b : Nat} {o : Obj} (s : Sat W0 (sep L) w) (h : nth L i = some (blk b o)) : w.heap[b]? = some o := by
  obtain ⟨_, x, hx, ha⟩ := s.mono ((Ent.perm (perm_nth h)).trans (Ent.head _ _))
  exact hx b o ha
/-- The world's memory is turned at one block that is owned. -/
theorem Sat.put {W0 w w' : World} {L : List Assn} {i b : Nat} {o o' : Obj} (s : Sat W0 (sep L) w) (h : nth L i = some (blk b o)) (hk : Kept w w')
    (hb : w'.heap[b]? = some o') (hr : ∀ k, k ≠ b → k < w.heap.size → w'.heap[k]? = w.heap[k]?) : Sat W0 (sep (setN L i (blk b o'))) w' := by
  have s1 := s.mono (Ent.perm (perm_nth h))
  obtain ⟨k, x, hx, h1, h2, d, rfl, ha, hl⟩ := s1
  refine Sat.mono (Ent.perm (perm_setN h)) ⟨k.trans hk, Frag.join (fun k => if k = b then some o' else none) h2, ?_, _, h2, ?_, rfl, by simp [blk], hl⟩
  · have hdis : h2 b = none := by
      rcases d b with e | e
      · unfold blk at ha; rw [e] at ha; cases ha
      · exact e
    intro y u e
    unfold Frag.join at e
    by_cases hyb : y = b
    · subst hyb
      simp only [if_true] at e
      cases e
      exact hb
    · simp only [hyb, if_false] at e
      have hw := hx y u (Frag.le_join_right d y u e)
      have hlt : y < w.heap.size := by
        rcases Nat.lt_or_ge y w.heap.size with g | g
        · exact g
        · rw [Array.getElem?_eq_none g] at hw; cases hw
      rw [hr y hyb hlt]
      exact hw
  · intro y
    by_cases hyb : y = b
    · subst hyb
      rcases d y with e | e
      · unfold blk at ha; rw [e] at ha; cases ha
      · exact .inr e
    · left
      simp [hyb]
/-- More blocks. -/
theorem Sat.fresh {W0 w w' : World} {L : List Assn} {b : Nat} {o : Obj} (s : Sat W0 (sep L) w) (hk : Kept w w') (hb : w.heap.size ≤ b)
    (ho : w'.heap[b]? = some o) (hr : ∀ k, k < w.heap.size → w'.heap[k]? = w.heap[k]?) : Sat W0 (sep (blk b o :: L)) w' := by
  obtain ⟨k, x, hx, ha⟩ := s
  have hxs : ∀ y u, x y = some u → y < w.heap.size := fun y u e => by
    have hw := hx y u e
    rcases Nat.lt_or_ge y w.heap.size with g | g
    · exact g
    · rw [Array.getElem?_eq_none g] at hw; cases hw
  refine ⟨k.trans hk, Frag.join (fun k => if k = b then some o else none) x, ?_, _, x, ?_, rfl, by simp [blk], ha⟩
  · intro y u e
    unfold Frag.join at e
    by_cases hyb : y = b
    · subst hyb
      simp only [if_true] at e
      cases e
      exact ho
    · simp only [hyb, if_false] at e
      rw [hr y (hxs y u e)]
      exact hx y u e
  · intro y
    by_cases hyb : y = b
    · subst hyb
      right
      cases e : x y with
      | none => rfl
      | some u => have := hxs y u e; omega
    · left
      simp [hyb]
theorem Sat.same {W0 w w' : World} {A : Assn} (s : Sat W0 A w) (hk : Kept w w') (hr : ∀ k, k < w.heap.size → w'.heap[k]? = w.heap[k]?) : Sat W0 A w' := by
  obtain ⟨k, x, hx, ha⟩ := s
  refine ⟨k.trans hk, x, fun y u e => ?_, ha⟩
  have hw := hx y u e
  rw [hr y ?_]
  · exact hw
  · rcases Nat.lt_or_ge y w.heap.size with g | g
    · exact g
    · rw [Array.getElem?_eq_none g] at hw; cases hw
theorem Sat.drew {W0 w : World} {A : Assn} (s : Sat W0 A w) : Sat W0 A w.drew := s.same ⟨rfl, rfl, rfl, Nat.le_refl _⟩ (fun _ _ => rfl)
theorem Sat.alloc {W0 w : World} {L : List Assn} (s : Sat W0 (sep L) w) (o : Obj) : Sat W0 (sep (blk w.heap.size o :: L)) (w.alloc o) :=
  s.fresh ⟨rfl, rfl, rfl, by simp⟩ (Nat.le_refl _) (by show (w.heap.push o)[w.heap.size]? = _; simp) (fun k hk => by show (w.heap.push o)[k]? = _; rw [Array.getElem?_push, if_neg (by omega)])

/-! ### Assertions with quantifiers and facts -/
def ex {α : Type} (A : α → Assn) : Assn := fun h => ∃ x, A x h
def fact (p : Prop) : Assn := fun _ => p
theorem Ent.ex {α : Type} {A : α → Assn} (x : α) : Ent (A x) (Sl.ex A) := Ent.of_imp fun _ h => ⟨x, h⟩
theorem Sat.out {W0 w : World} {α : Type} {A : α → Assn} {L : List Assn} (s : Sat W0 (sep (Sl.ex A :: L)) w) : ∃ x, Sat W0 (sep (A x :: L)) w := by
  obtain ⟨k, y, hy, h1, h2, d, rfl, ⟨x, hx⟩, hl⟩ := s
  exact ⟨x, k, _, hy, h1, h2, d, rfl, hx, hl⟩
end Go.Sl
