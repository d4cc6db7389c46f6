/-
  Judgements over code, regions and operations, in the words of Sl1. It proves nothing of the program by itself.
-/
import Derived.Test.YtokbjejbgbdkoaaGreatGSl1
set_option linter.unusedVariables false
set_option linter.unusedSimpArgs false
namespace Go.Sl
open Go

/-! ### Frames as functions -/
abbrev Env := Nat → Value
def upd (e : Env) (d : Nat) (v : Value) : Env := fun t => cond (Nat.beq t d) v (e t)
def updO (e : Env) : Option Nat → Value → Env
  | some d, v => upd e d v
  | none, _ => e
def envOf (l : List Value) : Env := fun t => (nth l t).getD undef
def ev (e : Env) : Operand → Value
  | .tmp t => e t
  | .const v => v
  | .global g => .pointer (some ⟨g, 0, none⟩)
  | .func f => .func (.func f) #[] #[]
structure EnvOk (N : Nat) (a : Act) (e : Env) : Prop where
  defers : a.defers = []
  size : a.tmps.size = N
  get : ∀ t, a.tmps.getD t undef = e t
theorem EnvOk.eval {N : Nat} {a : Act} {e : Env} (h : EnvOk N a e) : a.eval = ev e := by
  funext x
  cases x <;> simp only [Act.eval, ev]
  exact h.get _
theorem EnvOk.put {N : Nat} {a : Act} {e : Env} (h : EnvOk N a e) {d : Option Nat} (hd : ∀ x, d = some x → Nat.blt x N = true) (v : Value) : EnvOk N (a.put d v) (updO e d v) := by
  cases d with
  | none => exact h
  | some x =>
    have hx : x < N := by have := hd x rfl; simpa using this
    refine ⟨h.defers, ?_, fun t => ?_⟩
    · show (a.tmps.setIfInBounds x v).size = N
      rw [Array.size_setIfInBounds]; exact h.size
    · show (a.tmps.setIfInBounds x v).getD t undef = upd e x v t
      unfold upd
      by_cases htx : t = x
      · subst htx
        have : Nat.beq t t = true := by simp
        rw [this]
        simp [h.size, hx]
      · have : Nat.beq t x = false := by
          cases hb : Nat.beq t x with
          | false => rfl
          | true => exact absurd (Nat.eq_of_beq_eq_true hb) htx
        rw [this]
        have hne : x ≠ t := fun g => htx g.symm
        have := h.get t
        simp only [Array.getD_eq_getD_getElem?] at this ⊢
        rw [Array.getElem?_setIfInBounds_ne hne]
        exact this
theorem EnvOk.enter {args : List Value} {N : Nat} (h : args.length ≤ N) : EnvOk N { tmps := args.toArray ++ Array.replicate (N - args.toArray.size) undef, defers := [] } (envOf args) := by
  refine ⟨rfl, ?_, fun t => ?_⟩
  · simp; omega
  · unfold envOf
    have hn : ∀ (l : List Value) (t : Nat), nth l t = l[t]? := by
      intro l
      induction l with
      | nil => intro t; simp [nth]
      | cons x l ih => intro t; cases t <;> simp [nth, ih]
    rw [hn]
    simp only [Array.getD_eq_getD_getElem?]
    by_cases ht : t < args.length
    · rw [Array.getElem?_append_left (by simpa using ht)]
      simp
    · rw [Array.getElem?_append_right (by simpa using ht)]
      rw [List.getElem?_eq_none (by omega)]
      simp [Array.getElem?_replicate]
      split <;> rfl
/-- Which slots hold what. -/
def LiveIs (e : Env) : List (Nat × Value) → Prop
  | [] => True
  | (t, v) :: l => e t = v ∧ LiveIs e l
def updAll (e : Env) : List (Nat × Value) → Env
  | [] => e
  | (t, v) :: l => upd (updAll e l) t v
theorem live_eq {e : Env} : ∀ {l : List (Nat × Value)}, LiveIs e l → e = updAll e l
  | [], _ => rfl
  | (t, v) :: l, h => by
    have ih := live_eq h.2
    funext x
    show e x = upd (updAll e l) t v x
    rw [← ih]
    unfold upd
    cases hb : Nat.beq x t with
    | false => rfl
    | true => rw [Nat.eq_of_beq_eq_true hb]; exact h.1
theorem live_ex {e : Env} {l : List (Nat × Value)} (h : LiveIs e l) : ∃ e', e = updAll e' l := ⟨e, live_eq h⟩

/-! ### Code -/
abbrev Post := Exit → Env → List Assn → Prop
def T (P : Program) (N : Nat) (c : Code) (Q : Post) (e : Env) (Hs : List Assn) : Prop :=
  ∀ W0 a w, EnvOk N a e → Sat W0 (sep Hs) w → c.wp P (fun x a' w' => ∃ e' Hs', EnvOk N a' e' ∧ Sat W0 (sep Hs') w' ∧ Q x e' Hs') a w
def Post.seq (K : Env → List Assn → Prop) (Q : Post) : Post
  | .normal, e, H => K e H
  | x, e, H => Q x e H
def Post.block (id : Nat) (Q : Post) : Post
  | .exit id', e, H => if id' = id then Q .normal e H else Q (.exit id') e H
  | x, e, H => Q x e H
section code
variable {P : Program} {N : Nat} {Q Q' : Post} {e : Env} {Hs Hs' : List Assn}
theorem T.mono {c : Code} (h : T P N c Q e Hs) (k : ∀ x e H, Q x e H → Q' x e H) : T P N c Q' e Hs :=
  fun W0 a w ha hs => wp_mono (h W0 a w ha hs) fun _ _ _ ⟨e', H', h1, h2, h3⟩ => ⟨e', H', h1, h2, k _ _ _ h3⟩
theorem T.ent {c : Code} (k : Ent (sep Hs) (sep Hs')) (h : T P N c Q e Hs') : T P N c Q e Hs :=
  fun W0 a w ha hs => h W0 a w ha (hs.mono k)
theorem T.live {c : Code} (l : List (Nat × Value)) (hl : LiveIs e l) (h : ∀ e', T P N c Q (updAll e' l) Hs) : T P N c Q e Hs := by
  obtain ⟨e', rfl⟩ := live_ex hl
  exact h e'
theorem T.ex {c : Code} {α : Type} {A : α → Assn} {L : List Assn} (h : ∀ x, T P N c Q e (A x :: L)) : T P N c Q e (Sl.ex A :: L) :=
  fun W0 a w ha hs => let ⟨x, hx⟩ := hs.out; h x W0 a w ha hx
theorem T.skip (h : Q .normal e Hs) : T P N .skip Q e Hs := fun _ _ _ ha hs => wp_skip ⟨e, Hs, ha, hs, h⟩
theorem T.label {l : Nat} (h : Q .normal e Hs) : T P N (.label l) Q e Hs := fun _ _ _ ha hs => wp_label ⟨e, Hs, ha, hs, h⟩
theorem T.ret (h : Q .ret e Hs) : T P N .ret Q e Hs := fun _ _ _ ha hs => wp_ret ⟨e, Hs, ha, hs, h⟩
theorem T.exit {id : Nat} (h : Q (.exit id) e Hs) : T P N (.exit id) Q e Hs := fun _ _ _ ha hs => wp_exit ⟨e, Hs, ha, hs, h⟩
theorem T.seq {x y : Code} (h : ∀ K : Env → List Assn → Prop, (∀ e H, T P N y Q e H → K e H) → T P N x (Post.seq K Q) e Hs) : T P N (.seq x y) Q e Hs := by
  intro W0 a w ha hs
  have h1 := h (T P N y Q) (fun _ _ h => h) W0 a w ha hs
  refine wp_seq (wp_mono h1 ?_)
  rintro x a' w' ⟨e', H', h2, h3, h4⟩
  cases x with
  | normal => exact h4 W0 a' w' h2 h3
  | exit id => exact ⟨e', H', h2, h3, h4⟩
  | goto l => exact ⟨e', H', h2, h3, h4⟩
  | ret => exact ⟨e', H', h2, h3, h4⟩
  | panic c => exact ⟨e', H', h2, h3, h4⟩
  | outgrown => exact ⟨e', H', h2, h3, h4⟩
theorem T.cond {c : Operand} {x y : Code} {t : Bool} (hc : ev e c = .bool t) (ht : t = true → T P N x Q e Hs) (hf : t = false → T P N y Q e Hs) : T P N (.cond c x y) Q e Hs := by
  intro W0 a w ha hs
  have hc' : a.eval c = .bool t := by rw [ha.eval]; exact hc
  exact wp_cond_split hc' (fun h => ht h W0 a w ha hs) (fun h => hf h W0 a w ha hs)
theorem T.cond_dec {c : Operand} {x y : Code} {p : Prop} [Decidable p] (hc : ev e c = .bool (decide p)) (ht : p → T P N x Q e Hs) (hf : ¬ p → T P N y Q e Hs) : T P N (.cond c x y) Q e Hs :=
  T.cond hc (fun h => ht (of_decide_eq_true h)) (fun h => hf (of_decide_eq_false h))
theorem T.block {id : Nat} {c : Code} (h : T P N c (Post.block id Q) e Hs) : T P N (.block id c) Q e Hs := by
  intro W0 a w ha hs
  refine wp_block (wp_mono (h W0 a w ha hs) ?_)
  rintro x a' w' ⟨e', H', h2, h3, h4⟩
  cases x with
  | exit id' =>
    simp only [Exit.inBlock, Post.block] at h4 ⊢
    split
    · rename_i g; simp only [g, if_true] at h4; exact ⟨e', H', h2, h3, h4⟩
    · rename_i g; simp only [g, if_false] at h4; exact ⟨e', H', h2, h3, h4⟩
  | normal => exact ⟨e', H', h2, h3, h4⟩
  | goto l => exact ⟨e', H', h2, h3, h4⟩
  | ret => exact ⟨e', H', h2, h3, h4⟩
  | panic c => exact ⟨e', H', h2, h3, h4⟩
  | outgrown => exact ⟨e', H', h2, h3, h4⟩
/-- A loop: what stands at its head is told by g: which slots hold what, what is owned, what holds of g; a round lowers the measure. -/
theorem T.loop {G : Type} {c : Code} (inv : G → Prop) (live : G → List (Nat × Value)) (res : G → List Assn) (mu : G → Nat) (g0 : G)
    (h0 : inv g0) (hl : LiveIs e (live g0)) (he : Ent (sep Hs) (sep (res g0)))
    (round : ∀ g e', inv g → T P N c (Post.seq (fun e1 H1 => ∃ g', inv g' ∧ mu g' < mu g ∧ LiveIs e1 (live g') ∧ Ent (sep H1) (sep (res g'))) Q) (updAll e' (live g)) (res g)) :
    T P N (.loop c) Q e Hs := by
  intro W0 a w ha hs
  let mea : Act → World → Nat → Prop := fun a w n => ∃ g e', inv g ∧ EnvOk N a (updAll e' (live g)) ∧ Sat W0 (sep (res g)) w ∧ mu g = n
  have key : ∀ n a w, mea a w n → ∀ (b : Frame) (k : List Item) (cs : List Frame), ∃ x a' w', (∃ e' Hs', EnvOk N a' e' ∧ Sat W0 (sep Hs') w' ∧ Q x e' Hs') ∧
      Arrives P (lone (b.at a (.code c :: .inLoop c :: k)) cs w) b k cs x a' w' := by
    intro n
    induction n using Nat.strongRecOn with
    | _ n ih =>
      rintro a w ⟨g, e', hi, hok, hsat, rfl⟩ b k cs
      obtain ⟨x, a1, w1, hq, harr⟩ := round g e' hi W0 a w hok hsat b (.inLoop c :: k) cs
      obtain ⟨e1, H1, h1, h2, h3⟩ := hq
      cases x with
      | normal =>
        obtain ⟨g', hi', hlt, hl', he'⟩ := h3
        obtain ⟨e2, rfl⟩ := live_ex hl'
        obtain ⟨x2, a2, w2, hq2, harr2⟩ := ih (mu g') hlt a1 w1 ⟨g', e2, hi', h1, h2.mono he', rfl⟩ b k cs
        exact ⟨x2, a2, w2, hq2, .of_steps (Steps.trans harr (.one step_inLoop)) harr2⟩
      | exit id => exact ⟨_, a1, w1, ⟨e1, H1, h1, h2, h3⟩, .pass (x := .inLoop c) rfl (fun _ _ => .inl (by simp)) harr⟩
      | goto l => exact ⟨_, a1, w1, ⟨e1, H1, h1, h2, h3⟩, .pass (x := .inLoop c) rfl (fun _ _ => .inl (by simp)) harr⟩
      | ret => exact ⟨_, a1, w1, ⟨e1, H1, h1, h2, h3⟩, .pass (x := .inLoop c) rfl (fun _ _ => .inl (by simp)) harr⟩
      | panic ch => exact ⟨_, a1, w1, ⟨e1, H1, h1, h2, h3⟩, .pass (x := .inLoop c) rfl (fun _ _ => .inl (by simp)) harr⟩
      | outgrown => exact ⟨_, a1, w1, ⟨e1, H1, h1, h2, h3⟩, .pass (x := .inLoop c) rfl (fun _ _ => .inl (by simp)) harr⟩
  obtain ⟨e', rfl⟩ := live_ex hl
  intro b k cs
  obtain ⟨x2, a2, w2, hq2, harr2⟩ := key _ a w ⟨g0, e', h0, ha, hs.mono he, rfl⟩ b k cs
  exact ⟨x2, a2, w2, hq2, .of_steps (.one step_loop) harr2⟩
end code
end Go.Sl
