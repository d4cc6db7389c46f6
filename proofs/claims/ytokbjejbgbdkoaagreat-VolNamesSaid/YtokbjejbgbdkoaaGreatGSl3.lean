/-
  Regions: in the order of the text, and in whatever order is drawn. It proves nothing of the program by itself.
-/
import Derived.Test.YtokbjejbgbdkoaaGreatGSl2
set_option linter.unusedVariables false
set_option linter.unusedSimpArgs false
namespace Go.Sl
open Go

/-! ### An order that is drawn: what is quiet may be taken first -/
inductive Kd3 where
  | pure | load | eff
section orders
variable {P : Program} {ops : Array Oper} {Q : Exit → Act → World → Prop} {md : Region.Mode} {S : World → Prop} {z : Nat}
/-- Whatever order is picked from here on; S holds till z has come up. -/
def wpAnyG (P : Program) (md : Region.Mode) (ops : Array Oper) (Q : Exit → Act → World → Prop) (S : World → Prop) (z : Nat) : Nat → Array Bool → Act → World → Prop
  | 0, listed, a, w => Region.ready md ops listed = [] ∧ Q .normal a w
  | fuel + 1, listed, a, w =>
    (Region.ready md ops listed = [] → Q .normal a w) ∧
    ∀ i ∈ Region.ready md ops listed, wpOp P ops Q i (fun a' w' => (S w' ∨ (listed.setIfInBounds i true).getD z false = true) ∧ wpAnyG P md ops Q S z fuel (listed.setIfInBounds i true) a' w') a w
theorem wpAny_of_G : ∀ (fuel : Nat) (listed : Array Bool) (a : Act) (w : World), wpAnyG P md ops Q S z fuel listed a w → wpAny P md ops Q fuel listed a w
  | 0, _, _, _, h => h
  | fuel + 1, _, _, _, h => ⟨h.1, fun i hi => wpOp_mono (fun a' w' h' => wpAny_of_G fuel _ a' w' h'.2) (h.2 i hi)⟩
/-- z waits for i. -/
def waits (md : Region.Mode) (ops : Array Oper) (z i : Nat) : Prop := z ≠ i ∧ ∀ oz, ops[z]? = some oz → ∃ e ∈ oz.after, Region.binds md e = true ∧ e.on = i
theorem wpAnyG_load {i : Nat} {oi : Oper} {v : Value} (hi : ops[i]? = some oi) (hsel : ∀ (j : Nat) (o : Oper) cs b, ops[j]? = some o → o.op ≠ .select cs b)
    (hQ : ∀ c a w, Q (.panic c) (a.put oi.dst v) w → Q (.panic c) a w) (hz : waits md ops z i) :
    ∀ (fuel : Nat) (listed : Array Bool) (a : Act) (w : World),
      (∀ j oj, ops[j]? = some oj → j ≠ i → listed.getD j true = false → (∀ e ∈ oj.after, Region.binds md e = true → e.on ≠ i) → oi.apart ops oj = true) →
      i ∈ Region.ready md ops listed → listed.getD z false = false → YieldsIf P ops S oi v a → S w →
      wpAnyG P md ops Q S z fuel (listed.setIfInBounds i true) (a.put oi.dst v) w → wpAnyG P md ops Q S z (fuel + 1) listed a w := by
  intro fuel
  induction fuel with
  | zero =>
    intro listed a w _ hr _ hy hS H
    refine ⟨fun h => (by rw [h] at hr; cases hr), fun j hj => ?_⟩
    by_cases hji : j = i
    · subst hji; exact hy.wpOp hi hS ⟨.inl hS, H⟩
    · have := ready_mono hj hji
      rw [H.1] at this
      cases this
  | succ fuel ih =>
    intro listed a w hfree hr hzl hy hS H
    refine ⟨fun h => (by rw [h] at hr; cases hr), fun j hj => ?_⟩
    by_cases hji : j = i
    · subst hji; exact hy.wpOp hi hS ⟨.inl hS, H⟩
    · have h1 := H.2 j (ready_mono hj hji)
      obtain ⟨hjun, oj, hoj, hall⟩ := mem_ready.1 hj
      have hnot : ∀ e ∈ oj.after, Region.binds md e = true → e.on ≠ i := fun e he hb heq => by
        have h1 := hall e he hb
        have h0 := (mem_ready.1 hr).1
        rw [heq] at h1
        rcases Nat.lt_or_ge i listed.size with h' | h'
        · simp [h'] at h0 h1; rw [h0] at h1; cases h1
        · simp [Array.getElem?_eq_none h'] at h1
      have hjz : j ≠ z := fun g => by
        subst g
        obtain ⟨e, he, hb, hon⟩ := hz.2 oj hoj
        exact hnot e he hb hon
      have hlz : (listed.setIfInBounds j true).getD z false = false := by rw [getD_set_ne false hjz]; exact hzl
      have hlz2 : ((listed.setIfInBounds i true).setIfInBounds j true).getD z false = false := by
        rw [getD_set_ne false hjz, getD_set_ne false (Ne.symm hz.1)]; exact hzl
      have h2 := wpOp_putIf hoj (hfree j oj hoj hji hjun hnot) (fun cs b => hsel i oi cs b hi) (fun cs b => hsel j oj cs b hoj) hQ hy h1
      have hfree' : ∀ k ok, ops[k]? = some ok → k ≠ i → (listed.setIfInBounds j true).getD k true = false →
          (∀ e ∈ ok.after, Region.binds md e = true → e.on ≠ i) → oi.apart ops ok = true := fun k ok hk hki hun hno => by
        refine hfree k ok hk hki ?_ hno
        by_cases hjk : j = k
        · subst hjk; exact hjun
        · rw [getD_set_ne true hjk] at hun; exact hun
      refine wpOp_mono (fun a' w' h3 => ?_) h2
      have hS' : S w' := h3.2.1.resolve_right (by rw [hlz2]; simp)
      refine ⟨.inl hS', ih (listed.setIfInBounds j true) a' w' hfree' (ready_mono hr (Ne.symm hji)) hlz h3.1 hS' ?_⟩
      rw [Array.setIfInBounds_comm _ _ hji]
      exact h3.2.2
theorem getD_false_set {listed : Array Bool} {i j : Nat} (h : listed.getD j false = true) : (listed.setIfInBounds i true).getD j false = true := getD_set_true h
theorem wpAnyG_pure {i : Nat} {oi : Oper} {v : Value} (hi : ops[i]? = some oi) (hsel : ∀ (j : Nat) (o : Oper) cs b, ops[j]? = some o → o.op ≠ .select cs b)
    (hQ : ∀ c a w, Q (.panic c) (a.put oi.dst v) w → Q (.panic c) a w) (hiz : i ≠ z) :
    ∀ (fuel : Nat) (listed : Array Bool) (a : Act) (w : World),
      (∀ j oj, ops[j]? = some oj → j ≠ i → listed.getD j true = false → (∀ e ∈ oj.after, Region.binds md e = true → e.on ≠ i) → oi.apart ops oj = true) →
      i ∈ Region.ready md ops listed → Yields P ops oi v a → (S w ∨ listed.getD z false = true) →
      wpAnyG P md ops Q S z fuel (listed.setIfInBounds i true) (a.put oi.dst v) w → wpAnyG P md ops Q S z (fuel + 1) listed a w := by
  intro fuel
  induction fuel with
  | zero =>
    intro listed a w _ hr hy hS H
    refine ⟨fun h => (by rw [h] at hr; cases hr), fun j hj => ?_⟩
    by_cases hji : j = i
    · subst hji; exact hy.wpOp hi ⟨hS.imp id getD_false_set, H⟩
    · have := ready_mono hj hji
      rw [H.1] at this
      cases this
  | succ fuel ih =>
    intro listed a w hfree hr hy hS H
    refine ⟨fun h => (by rw [h] at hr; cases hr), fun j hj => ?_⟩
    by_cases hji : j = i
    · subst hji; exact hy.wpOp hi ⟨hS.imp id getD_false_set, H⟩
    · have h1 := H.2 j (ready_mono hj hji)
      obtain ⟨hjun, oj, hoj, hall⟩ := mem_ready.1 hj
      have hnot : ∀ e ∈ oj.after, Region.binds md e = true → e.on ≠ i := fun e he hb heq => by
        have h1 := hall e he hb
        have h0 := (mem_ready.1 hr).1
        rw [heq] at h1
        rcases Nat.lt_or_ge i listed.size with h' | h'
        · simp [h'] at h0 h1; rw [h0] at h1; cases h1
        · simp [Array.getElem?_eq_none h'] at h1
      have h2 := wpOp_put hoj (hfree j oj hoj hji hjun hnot) (fun cs b => hsel i oi cs b hi) (fun cs b => hsel j oj cs b hoj) hQ hy h1
      have hfree' : ∀ k ok, ops[k]? = some ok → k ≠ i → (listed.setIfInBounds j true).getD k true = false →
          (∀ e ∈ ok.after, Region.binds md e = true → e.on ≠ i) → oi.apart ops ok = true := fun k ok hk hki hun hno => by
        refine hfree k ok hk hki ?_ hno
        by_cases hjk : j = k
        · subst hjk; exact hjun
        · rw [getD_set_ne true hjk] at hun; exact hun
      refine wpOp_mono (fun a' w' h3 => ?_) h2
      have hS' : S w' ∨ (listed.setIfInBounds j true).getD z false = true := by
        rcases h3.2.1 with g | g
        · exact .inl g
        · right
          rw [Array.setIfInBounds_comm _ _ (Ne.symm hji), getD_set_ne false hiz] at g
          exact g
      refine ⟨hS', ih (listed.setIfInBounds j true) a' w' hfree' (ready_mono hr (Ne.symm hji)) h3.1 hS' ?_⟩
      rw [Array.setIfInBounds_comm _ _ hji]
      exact h3.2.2

/-- The region, operation by operation, in an order that is told: what is pure or loads, and what does something. -/
def wpX (P : Program) (ops : Array Oper) (S : World → Prop) (z : Nat) (Qn : Act → World → Prop) : List (Nat × Kd3) → Act → World → Prop
  | [], a, w => Qn a w
  | (i, .pure) :: l, a, w => ∃ o v, ops[i]? = some o ∧ Yields P ops o v a ∧ wpX P ops S z Qn l (a.put o.dst v) w
  | (i, .load) :: l, a, w => ∃ o v, ops[i]? = some o ∧ YieldsIf P ops S o v a ∧ S w ∧ wpX P ops S z Qn l (a.put o.dst v) w
  | (i, .eff) :: l, a, w => wpOp P ops (fun _ _ _ => False) i (fun a' w' => (S w' ∨ i = z) ∧ wpX P ops S z Qn l a' w') a w
def waitsB (md : Region.Mode) (ops : Array Oper) (z i : Nat) : Bool :=
  !(Nat.beq z i) && match ops[z]? with
    | none => true
    | some oz => oz.after.any fun e => Region.binds md e && Nat.beq e.on i
theorem waitsB_spec {i : Nat} (h : waitsB md ops z i = true) : waits md ops z i := by
  unfold waitsB at h
  simp only [Bool.and_eq_true, Bool.not_eq_true'] at h
  refine ⟨fun g => by rw [g] at h; simp at h, fun oz hoz => ?_⟩
  rw [hoz] at h
  obtain ⟨e, he, hb⟩ := Array.any_eq_true'.1 h.2
  simp only [Bool.and_eq_true] at hb
  exact ⟨e, he, hb.1, Nat.eq_of_beq_eq_true hb.2⟩
/-- Is the order one that may be walked for all? -/
def ordOk (md : Region.Mode) (ops : Array Oper) (z : Nat) : List (Nat × Kd3) → Array Bool → Bool
  | [], listed => (Region.ready md ops listed).isEmpty
  | (i, .pure) :: l, listed => (Region.ready md ops listed).contains i && Region.free md ops listed i && !(Nat.beq i z) && ordOk md ops z l (listed.setIfInBounds i true)
  | (i, .load) :: l, listed => (Region.ready md ops listed).contains i && Region.free md ops listed i && waitsB md ops z i && !(listed.getD z false) && ordOk md ops z l (listed.setIfInBounds i true)
  | (i, .eff) :: l, listed => (match Region.ready md ops listed with | [j] => Nat.beq i j && Nat.blt i listed.size | _ => false) && ordOk md ops z l (listed.setIfInBounds i true)
theorem wpX_G {Qn : Act → World → Prop} (hs : Region.noSelect ops = true) : ∀ (l : List (Nat × Kd3)) (listed : Array Bool) (a : Act) (w : World),
    ordOk md ops z l listed = true → (S w ∨ listed.getD z false = true) → wpX P ops S z Qn l a w →
    wpAnyG P md ops (fun x a w => x = .normal ∧ Qn a w) S z l.length listed a w
  | [], listed, a, w, ho, _, h => ⟨by simpa [ordOk] using ho, rfl, h⟩
  | (i, .pure) :: l, listed, a, w, ho, hS, h => by
    simp only [ordOk, Bool.and_eq_true, Bool.not_eq_true'] at ho
    obtain ⟨⟨⟨hr, hf⟩, hiz⟩, ho⟩ := ho
    obtain ⟨o, v, hi, hy, hn⟩ := h
    refine wpAnyG_pure hi (Region.noSelect_spec hs) (fun c a w hh => by cases hh.1) (fun g => by rw [g] at hiz; simp at hiz) l.length listed a w (Region.free_spec hi hf) (by simpa using hr) hy hS ?_
    exact wpX_G hs l _ _ _ ho (hS.imp id getD_false_set) hn
  | (i, .load) :: l, listed, a, w, ho, hS, h => by
    simp only [ordOk, Bool.and_eq_true, Bool.not_eq_true'] at ho
    obtain ⟨⟨⟨⟨hr, hf⟩, hw⟩, hlz⟩, ho⟩ := ho
    obtain ⟨o, v, hi, hy, hSw, hn⟩ := h
    refine wpAnyG_load hi (Region.noSelect_spec hs) (fun c a w hh => by cases hh.1) (waitsB_spec hw) l.length listed a w (Region.free_spec hi hf) (by simpa using hr) hlz hy hSw ?_
    exact wpX_G hs l _ _ _ ho (.inl hSw) hn
  | (i, .eff) :: l, listed, a, w, ho, hS, h => by
    simp only [ordOk, Bool.and_eq_true] at ho
    obtain ⟨hr, ho⟩ := ho
    have hrr : Region.ready md ops listed = [i] ∧ i < listed.size := by
      split at hr
      · rename_i j hj
        simp only [Bool.and_eq_true] at hr
        rw [hj, Nat.eq_of_beq_eq_true hr.1]
        refine ⟨rfl, by have := hr.2; rw [Nat.eq_of_beq_eq_true hr.1] at this; simpa using this⟩
      · cases hr
    refine ⟨fun h0 => (by rw [hrr.1] at h0; cases h0), fun j hj => ?_⟩
    rw [hrr.1] at hj
    simp only [List.mem_singleton] at hj
    subst hj
    unfold wpX at h
    have hq : ∀ K : Act → World → Prop, wpOp P ops (fun _ _ _ => False) j K a w → wpOp P ops (fun x a w => x = .normal ∧ Qn a w) j K a w := by
      intro K
      unfold wpOp
      split
      · exact id
      · split
        · intro hh
          rcases hh with hh | ⟨_, _, _, hh⟩
          · left
            unfold Oper.wp at *
            generalize (execOp a.eval _).run P w = r at *
            cases r with
            | ok n w' =>
              cases n <;> simp only [Oper.upon] at hh ⊢ <;> first
                | exact hh
                | (refine Calls.mono hh fun e w'' he => ?_
                   cases e with
                   | returned u => exact he
                   | panicked c => exact he.elim
                   | outgrown => obtain ⟨_, _, he⟩ := he; exact he.elim)
            | halt x w' => cases x <;> simp only [Oper.upon] at hh ⊢
          · exact hh.elim
        · exact id
    refine hq _ (wpOp_mono (fun a' w' h3 => ?_) h)
    have hS' : S w' ∨ (listed.setIfInBounds j true).getD z false = true := by
      rcases h3.1 with g | g
      · exact .inl g
      · right; subst g; simp [hrr.2]
    exact ⟨hS', wpX_G hs l _ _ _ ho hS' h3.2⟩
end orders
theorem wpX_region {P : Program} {id z : Nat} {ops : Array Oper} {S : World → Prop} {Qn : Act → World → Prop} {a : Act} {w : World} {l : List (Nat × Kd3)} (hm : P.follows .mixedOrders = true)
    (hs : Region.noSelect ops = true) (hl : l.length = ops.size) (ho : ordOk .any ops z l (Array.replicate ops.size false) = true) (hS : S w.drew)
    (h : wpX P ops S z Qn l a w.drew) : (Code.region id ops true).wp P (fun x a w => x = .normal ∧ Qn a w) a w := by
  refine wp_region_any hm (wpAny_of_G (S := S) (z := z) _ _ _ _ ?_)
  rw [← hl]
  exact wpX_G hs l _ _ _ (by rw [hl]; exact ho) (.inl hS) h
end Go.Sl
