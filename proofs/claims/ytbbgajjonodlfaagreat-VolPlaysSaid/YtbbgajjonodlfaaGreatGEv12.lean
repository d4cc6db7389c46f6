/-
  Drawn orders: what has been read stays as it was read, till what waits for it comes up. It proves nothing of the program by itself.
-/
import Derived.Test.YtbbgajjonodlfaaGreatGEv11c
import Derived.OrdersIn
import Derived.LoopNIn
import Derived.RangeFuncRecord
set_option linter.unusedVariables false
set_option linter.unusedSimpArgs false
namespace Go.Evl
open Go Go.Sl
section orders
variable {P : Program} {ops : Array Oper} {Q : Exit → Act → World → Prop} {md : Region.Mode}
/-- z waits for i. -/
def wt (md : Region.Mode) (ops : Array Oper) (z i : Nat) : Bool := !(Nat.beq z i) && match ops[z]? with
    | none => true
    | some oz => oz.after.any fun e => Region.binds md e && Nat.beq e.on i
def dropS (md : Region.Mode) (ops : Array Oper) (S : Nat → World → Prop) (j : Nat) : Nat → World → Prop := fun i w => S i w ∨ wt md ops j i = true
def wpAnyS (P : Program) (md : Region.Mode) (ops : Array Oper) (Q : Exit → Act → World → Prop) : Nat → (Nat → World → Prop) → Array Bool → Act → World → Prop
  | 0, _, listed, a, w => Region.ready md ops listed = [] ∧ Q .normal a w
  | fuel + 1, S, listed, a, w =>
    (Region.ready md ops listed = [] → Q .normal a w) ∧
    ∀ j ∈ Region.ready md ops listed, wpOp P ops Q j (fun a' w' => (∀ i, dropS md ops S j i w') ∧ wpAnyS P md ops Q fuel (dropS md ops S j) (listed.setIfInBounds j true) a' w') a w
theorem wpAny_of_S : ∀ (fuel : Nat) (S : Nat → World → Prop) (listed : Array Bool) (a : Act) (w : World), wpAnyS P md ops Q fuel S listed a w → wpAny P md ops Q fuel listed a w
  | 0, _, _, _, _, h => h
  | fuel + 1, _, _, _, _, h => ⟨h.1, fun i hi => wpOp_mono (fun a' w' h' => wpAny_of_S fuel _ _ a' w' h'.2) (h.2 i hi)⟩
theorem wpAnyS_mono : ∀ (fuel : Nat) {S S' : Nat → World → Prop} (_ : ∀ i w, S i w → S' i w) (listed : Array Bool) (a : Act) (w : World), wpAnyS P md ops Q fuel S listed a w → wpAnyS P md ops Q fuel S' listed a w
  | 0, _, _, _, _, _, _, h => h
  | fuel + 1, S, S', hS, listed, a, w, h => ⟨h.1, fun j hj => wpOp_mono (fun a' w' h' =>
      ⟨fun i => (h'.1 i).imp (hS i w') id, wpAnyS_mono fuel (S := dropS md ops S j) (fun i w => Or.imp (hS i w) id) _ a' w' h'.2⟩) (h.2 j hj)⟩
theorem wt_no {i j : Nat} {oj : Oper} (hji : j ≠ i) (hoj : ops[j]? = some oj) (hnot : ∀ e ∈ oj.after, Region.binds md e = true → e.on ≠ i) : wt md ops j i = false := by
  unfold wt
  rw [hoj]
  simp only [Bool.and_eq_false_iff]
  right
  cases h : oj.after.any fun e => Region.binds md e && Nat.beq e.on i with
  | false => rfl
  | true =>
    obtain ⟨e, he, hb⟩ := Array.any_eq_true'.1 h
    simp only [Bool.and_eq_true] at hb
    exact absurd (Nat.eq_of_beq_eq_true hb.2) (hnot e he hb.1)
/-- i is read first; what it read stays read. -/
theorem wpAnyS_first {i : Nat} {oi : Oper} {v : Value} {Si : World → Prop} (hi : ops[i]? = some oi) (hsel : ∀ (j : Nat) (o : Oper) cs b, ops[j]? = some o → o.op ≠ .select cs b)
    (hQ : ∀ c a w, Q (.panic c) (a.put oi.dst v) w → Q (.panic c) a w) :
    ∀ (fuel : Nat) (S : Nat → World → Prop) (listed : Array Bool) (a : Act) (w : World),
      (∀ j oj, ops[j]? = some oj → j ≠ i → listed.getD j true = false → (∀ e ∈ oj.after, Region.binds md e = true → e.on ≠ i) → oi.apart ops oj = true) →
      i ∈ Region.ready md ops listed → YieldsIf P ops Si oi v a → Si w → (∀ k, S k w) →
      wpAnyS P md ops Q fuel (fun k w => S k w ∧ (k = i → Si w)) (listed.setIfInBounds i true) (a.put oi.dst v) w → wpAnyS P md ops Q (fuel + 1) S listed a w := by
  intro fuel
  induction fuel with
  | zero =>
    intro S listed a w _ hr hy hSi hS H
    refine ⟨fun h => (by rw [h] at hr; cases hr), fun j hj => ?_⟩
    by_cases hji : j = i
    · subst hji; exact hy.wpOp hi hSi ⟨fun k => .inl (hS k), H⟩
    · have := ready_mono hj hji
      rw [H.1] at this
      cases this
  | succ fuel ih =>
    intro S listed a w hfree hr hy hSi hS H
    refine ⟨fun h => (by rw [h] at hr; cases hr), fun j hj => ?_⟩
    by_cases hji : j = i
    · subst hji
      exact hy.wpOp hi hSi ⟨fun k => .inl (hS k), wpAnyS_mono (fuel + 1) (fun k w h => .inl h.1) _ _ _ H⟩
    · have h1 := H.2 j (ready_mono hj hji)
      obtain ⟨hjun, oj, hoj, hall⟩ := mem_ready.1 hj
      have hnot : ∀ e ∈ oj.after, Region.binds md e = true → e.on ≠ i := fun e he hb heq => by
        have h1 := hall e he hb
        have h0 := (mem_ready.1 hr).1
        rw [heq] at h1
        rcases Nat.lt_or_ge i listed.size with h' | h'
        · simp [h'] at h0 h1; rw [h0] at h1; cases h1
        · simp [Array.getElem?_eq_none h'] at h1
      have hwt := wt_no hji hoj hnot
      have h2 := wpOp_putIf hoj (hfree j oj hoj hji hjun hnot) (fun cs b => hsel i oi cs b hi) (fun cs b => hsel j oj cs b hoj) hQ hy h1
      have hfree' : ∀ k ok, ops[k]? = some ok → k ≠ i → (listed.setIfInBounds j true).getD k true = false →
          (∀ e ∈ ok.after, Region.binds md e = true → e.on ≠ i) → oi.apart ops ok = true := fun k ok hk hki hun hno => by
        refine hfree k ok hk hki ?_ hno
        by_cases hjk : j = k
        · subst hjk; exact hjun
        · rw [getD_set_ne true hjk] at hun; exact hun
      refine wpOp_mono (fun a' w' h3 => ?_) h2
      have hd : ∀ k, dropS md ops S j k w' := fun k => (h3.2.1 k).imp (fun g => g.1) id
      have hSi' : Si w' := by
        rcases h3.2.1 i with g | g
        · exact g.2 rfl
        · rw [hwt] at g; cases g
      refine ⟨hd, ih (dropS md ops S j) (listed.setIfInBounds j true) a' w' hfree' (ready_mono hr (Ne.symm hji)) h3.1 hSi' hd ?_⟩
      rw [Array.setIfInBounds_comm _ _ hji]
      refine wpAnyS_mono fuel (fun k w g => ?_) _ _ _ h3.2.2
      rcases g with g | g
      · exact ⟨.inl g.1, g.2⟩
      · refine ⟨.inr g, fun hk => ?_⟩
        subst hk
        rw [hwt] at g; cases g
/-- The region in one order that is told. -/
def wpXS (P : Program) (md : Region.Mode) (ops : Array Oper) (Qn : Act → World → Prop) : List (Nat × Kd3) → (Nat → World → Prop) → Act → World → Prop
  | [], _, a, w => Qn a w
  | (i, .pure) :: l, S, a, w => ∃ o v, ops[i]? = some o ∧ Yields P ops o v a ∧ wpXS P md ops Qn l S (a.put o.dst v) w
  | (i, .load) :: l, S, a, w => ∃ o v Si, ops[i]? = some o ∧ YieldsIf P ops Si o v a ∧ Si w ∧ wpXS P md ops Qn l (fun k w => S k w ∧ (k = i → Si w)) (a.put o.dst v) w
  | (i, .eff) :: l, S, a, w => wpOp P ops (fun _ _ _ => False) i (fun a' w' => (∀ k, dropS md ops S i k w') ∧ wpXS P md ops Qn l (dropS md ops S i) a' w') a w
def ordOkS (md : Region.Mode) (ops : Array Oper) : List (Nat × Kd3) → Array Bool → Bool
  | [], listed => (Region.ready md ops listed).isEmpty
  | (i, .pure) :: l, listed => (Region.ready md ops listed).contains i && Region.free md ops listed i && ordOkS md ops l (listed.setIfInBounds i true)
  | (i, .load) :: l, listed => (Region.ready md ops listed).contains i && Region.free md ops listed i && ordOkS md ops l (listed.setIfInBounds i true)
  | (i, .eff) :: l, listed => (match Region.ready md ops listed with | [j] => Nat.beq i j && Nat.blt i listed.size | _ => false) && ordOkS md ops l (listed.setIfInBounds i true)
theorem wpXS_any {Qn : Act → World → Prop} (hs : Region.noSelect ops = true) : ∀ (l : List (Nat × Kd3)) (S : Nat → World → Prop) (listed : Array Bool) (a : Act) (w : World),
    ordOkS md ops l listed = true → (∀ k, S k w) → wpXS P md ops Qn l S a w →
    wpAnyS P md ops (fun x a w => x = .normal ∧ Qn a w) l.length S listed a w
  | [], S, listed, a, w, ho, _, h => ⟨by simpa [ordOkS] using ho, rfl, h⟩
  | (i, .pure) :: l, S, listed, a, w, ho, hS, h => by
    simp only [ordOkS, Bool.and_eq_true] at ho
    obtain ⟨⟨hr, hf⟩, ho⟩ := ho
    obtain ⟨o, v, hi, hy, hn⟩ := h
    refine wpAnyS_first (Si := fun _ => True) hi (Region.noSelect_spec hs) (fun c a w hh => by cases hh.1) l.length S listed a w (Region.free_spec hi hf) (by simpa using hr) hy.yieldsIf trivial hS ?_
    exact wpAnyS_mono l.length (fun k w g => ⟨g, fun _ => trivial⟩) _ _ _ (wpXS_any hs l S _ _ _ ho hS hn)
  | (i, .load) :: l, S, listed, a, w, ho, hS, h => by
    simp only [ordOkS, Bool.and_eq_true] at ho
    obtain ⟨⟨hr, hf⟩, ho⟩ := ho
    obtain ⟨o, v, Si, hi, hy, hSi, hn⟩ := h
    refine wpAnyS_first (Si := Si) hi (Region.noSelect_spec hs) (fun c a w hh => by cases hh.1) l.length S listed a w (Region.free_spec hi hf) (by simpa using hr) hy hSi hS ?_
    exact wpXS_any hs l _ _ _ _ ho (fun k => ⟨hS k, fun _ => hSi⟩) hn
  | (i, .eff) :: l, S, listed, a, w, ho, hS, h => by
    simp only [ordOkS, Bool.and_eq_true] at ho
    obtain ⟨hr, ho⟩ := ho
    have hrr : Region.ready md ops listed = [i] ∧ i < listed.size := by
      split at hr
      · rename_i j hj
        simp only [Bool.and_eq_true] at hr
        rw [hj, Nat.eq_of_beq_eq_true hr.1]
        refine ⟨rfl, by have := hr.2; rw [Nat.eq_of_beq_eq_true hr.1] at this; simpa using this⟩
      · cases hr
    refine ⟨fun h0 => (by rw [hrr.1] at h0; cases h0), fun j hj => ?_⟩
    rw [hrr.1] at hj
    simp only [List.mem_singleton] at hj
    subst hj
    unfold wpXS at h
    have hq : ∀ K : Act → World → Prop, wpOp P ops (fun _ _ _ => False) j K a w → wpOp P ops (fun x a w => x = .normal ∧ Qn a w) j K a w := by
      intro K
      unfold wpOp
      split
      · exact id
      · split
        · intro hh
          rcases hh with hh | ⟨_, _, _, hh⟩
          · left
            unfold Oper.wp at *
            generalize (execOp a.eval _).run P w = r at *
            cases r with
            | ok n w' =>
              cases n <;> simp only [Oper.upon] at hh ⊢ <;> first
                | exact hh
                | (refine Calls.mono hh fun e w'' he => ?_
                   cases e with
                   | returned u => exact he
                   | panicked c => exact he.elim
                   | outgrown => obtain ⟨_, _, he⟩ := he; exact he.elim)
            | halt x w' => cases x <;> simp only [Oper.upon] at hh ⊢
          · exact hh.elim
        · exact id
    refine hq _ (wpOp_mono (fun a' w' h3 => ?_) h)
    exact ⟨h3.1, wpXS_any hs l _ _ _ _ ho h3.1 h3.2⟩
end orders
end Go.Evl
namespace Go.Evl
open Go Go.Sl
/-- A frame of a function, or of a round. -/
def FW (ro : Option Nat) : Fence := { Fence.wide with round := ro }
section
variable {P : Program} {ro : Option Nat} {n : Nat}
theorem FW_deep (g : (FW ro).depth.isSome = true) : False := by cases g
theorem calls_FW {f : FuncId} {args : Array Value} {w : World} {R : Ending → World → Prop} (h : Calls P f args w R) : CallsIn (FW ro) n P f args w R := (callsIn_wide (n := n)).2 h
theorem rows_FW {row : String} {args : Array Value} {w : World} {R : Value → World → Prop} (h : Rows P row args w R) : RowsIn (FW ro) n P row args w R :=
  fun c cs _ => let ⟨v, w', r, s⟩ := h c cs; ⟨v, w', r, stepsIn_wide.2 s⟩
theorem round_FW {l : Nat} {f : FuncId} {tmps : Array Value} {a b : Code} {w : World} {R : Ending → World → Prop} (h : RoundIn Fence.wide n P l f tmps a b w R) : RoundIn (FW ro) n P l f tmps a b w R := h
def noDef (ops : Array Oper) : Bool := ops.toList.all fun o => match o.op with | .defer _ => false | _ => true
theorem noDef_sound {ops : Array Oper} (h : noDef ops = true) {i : Nat} {o : Oper} (ho : ops[i]? = some o) : ∀ c, o.op ≠ .defer c := by
  intro c hc
  have := List.all_eq_true.1 h o (by rw [← Array.getElem?_toList] at ho; exact List.mem_of_getElem? ho)
  rw [hc] at this
  cases this
theorem op_FW {o : Oper} {a : Act} {w : World} {K : Act → World → Prop} {Qn : Act → World → Prop} (hd : ∀ c, o.op ≠ .defer c) (h : o.wp P a w K (fun x a w => x = .normal ∧ Qn a w)) :
    o.wpIn (FW ro) n P a w K (fun x a w => x = .normal ∧ Qn a w) := by
  refine ⟨fun _ _ => trivial, ?_⟩
  rw [Oper.semAt_eq _ _ _ hd]
  unfold Oper.wp at h
  generalize (execOp a.eval o).run P w = r at *
  cases r with
  | ok x w' =>
    cases x <;> simp only [Oper.upon, Oper.uponIn] at h ⊢ <;> first
      | exact h
      | exact ⟨fun g => (FW_deep g).elim, calls_FW h⟩
      | exact ⟨fun g => (FW_deep g).elim, rows_FW h⟩
      | exact h.elim
  | halt x w' => cases x <;> simp only [Oper.upon, Oper.uponIn] at h ⊢ <;> exact h
theorem wpOp_FW {ops : Array Oper} {i : Nat} {a : Act} {w : World} {K K' : Act → World → Prop} {Qn : Act → World → Prop} (hnd : noDef ops = true) (hk : ∀ a w, K a w → K' a w) (h : wpOp P ops (fun x a w => x = .normal ∧ Qn a w) i K a w) :
    wpOpIn (FW ro) n P ops (fun x a w => x = .normal ∧ Qn a w) i K' a w := by
  unfold wpOp at h
  unfold wpOpIn
  split
  · rename_i g; rw [g] at h; exact hk _ _ h
  · rename_i o g
    rw [g] at h
    simp only at h
    split
    · rename_i hw
      simp only [hw, if_true] at h
      rcases h with h | ⟨_, _, _, h⟩
      · exact Oper.wpIn_mono hk (op_FW (noDef_sound hnd g) h)
      · cases h.1
    · rename_i hw
      simp only [hw] at h
      exact ⟨fun _ _ => trivial, hk _ _ h⟩
theorem wpAny_FW {ops : Array Oper} {md : Region.Mode} {Qn : Act → World → Prop} (hnd : noDef ops = true) : ∀ (fuel : Nat) (listed : Array Bool) (a : Act) (w : World), wpAny P md ops (fun x a w => x = .normal ∧ Qn a w) fuel listed a w →
    wpAnyIn (FW ro) n P md ops (fun x a w => x = .normal ∧ Qn a w) fuel listed a w
  | 0, _, _, _, h => h
  | fuel + 1, listed, a, w, h => ⟨h.1, fun i hi => wpOp_FW hnd (fun a w => wpAny_FW hnd fuel _ a w) (h.2 i hi)⟩
theorem wpXS_regionIn {id : Nat} {ops : Array Oper} {Qn : Act → World → Prop} {a : Act} {w : World} {l : List (Nat × Kd3)} (hm : P.follows .mixedOrders = true) (hnd : noDef ops = true)
    (ho : (Region.noSelect ops && (Nat.beq l.length ops.size && ordOkS .any ops l (Array.replicate ops.size false))) = true)
    (h : wpXS P .any ops Qn l (fun _ _ => True) a w.drew) : (Code.region id ops true).wpIn (FW ro) n P (fun x a w => x = .normal ∧ Qn a w) a w := by
  simp only [Bool.and_eq_true] at ho
  refine wpIn_region_any hm (wpAny_FW hnd _ _ _ _ (wpAny_of_S _ (fun _ _ => True) _ _ _ ?_))
  have hl := Nat.eq_of_beq_eq_true ho.2.1
  rw [← hl]
  exact wpXS_any ho.1 l _ _ _ _ (by rw [hl]; exact ho.2.2) (fun _ => trivial) h
end
end Go.Evl
