/-
  In a round of a loop over a function: what holds of an activation holds of a round that defers nothing. It proves nothing of the program by itself.
-/
import Derived.Test.YtokbjejbgbdkoaaGreatGEv12
import Derived.OrdersIn
import Derived.LoopNIn
import Derived.RangeFuncRecord
set_option linter.unusedVariables false
set_option linter.unusedSimpArgs false
namespace Go.Evl
open Go Go.Sl
/-- A frame of a function, or of a round. -/
def FW (ro : Option Nat) : Fence := { Fence.wide with round := ro }
section
variable {P : Program} {ro : Option Nat} {n : Nat}
theorem FW_deep (g : (FW ro).depth.isSome = true) : False := by cases g
theorem calls_FW {f : FuncId} {args : Array Value} {w : World} {R : Ending → World → Prop} (h : Calls P f args w R) : CallsIn (FW ro) n P f args w R := (callsIn_wide (n := n)).2 h
theorem rows_FW {row : String} {args : Array Value} {w : World} {R : Value → World → Prop} (h : Rows P row args w R) : RowsIn (FW ro) n P row args w R :=
  fun c cs _ => let ⟨v, w', r, s⟩ := h c cs; ⟨v, w', r, stepsIn_wide.2 s⟩
theorem round_FW {l : Nat} {f : FuncId} {tmps : Array Value} {a b : Code} {w : World} {R : Ending → World → Prop} (h : RoundIn Fence.wide n P l f tmps a b w R) : RoundIn (FW ro) n P l f tmps a b w R := h
def noDef (ops : Array Oper) : Bool := ops.toList.all fun o => match o.op with | .defer _ => false | _ => true
theorem noDef_sound {ops : Array Oper} (h : noDef ops = true) {i : Nat} {o : Oper} (ho : ops[i]? = some o) : ∀ c, o.op ≠ .defer c := by
  intro c hc
  have := List.all_eq_true.1 h o (by rw [← Array.getElem?_toList] at ho; exact List.mem_of_getElem? ho)
  rw [hc] at this
  cases this
theorem op_FW {o : Oper} {a : Act} {w : World} {K : Act → World → Prop} {Qn : Act → World → Prop} (hd : ∀ c, o.op ≠ .defer c) (h : o.wp P a w K (fun x a w => x = .normal ∧ Qn a w)) :
    o.wpIn (FW ro) n P a w K (fun x a w => x = .normal ∧ Qn a w) := by
  refine ⟨fun _ _ => trivial, ?_⟩
  rw [Oper.semAt_eq _ _ _ hd]
  unfold Oper.wp at h
  generalize (execOp a.eval o).run P w = r at *
  cases r with
  | ok x w' =>
    cases x <;> simp only [Oper.upon, Oper.uponIn] at h ⊢ <;> first
      | exact h
      | exact ⟨fun g => (FW_deep g).elim, calls_FW h⟩
      | exact ⟨fun g => (FW_deep g).elim, rows_FW h⟩
      | exact h.elim
  | halt x w' => cases x <;> simp only [Oper.upon, Oper.uponIn] at h ⊢ <;> exact h
theorem wpOp_FW {ops : Array Oper} {i : Nat} {a : Act} {w : World} {K K' : Act → World → Prop} {Qn : Act → World → Prop} (hnd : noDef ops = true) (hk : ∀ a w, K a w → K' a w) (h : wpOp P ops (fun x a w => x = .normal ∧ Qn a w) i K a w) :
    wpOpIn (FW ro) n P ops (fun x a w => x = .normal ∧ Qn a w) i K' a w := by
  unfold wpOp at h
  unfold wpOpIn
  split
  · rename_i g; rw [g] at h; exact hk _ _ h
  · rename_i o g
    rw [g] at h
    simp only at h
    split
    · rename_i hw
      simp only [hw, if_true] at h
      rcases h with h | ⟨_, _, _, h⟩
      · exact Oper.wpIn_mono hk (op_FW (noDef_sound hnd g) h)
      · cases h.1
    · rename_i hw
      simp only [hw] at h
      exact ⟨fun _ _ => trivial, hk _ _ h⟩
theorem wpAny_FW {ops : Array Oper} {md : Region.Mode} {Qn : Act → World → Prop} (hnd : noDef ops = true) : ∀ (fuel : Nat) (listed : Array Bool) (a : Act) (w : World), wpAny P md ops (fun x a w => x = .normal ∧ Qn a w) fuel listed a w →
    wpAnyIn (FW ro) n P md ops (fun x a w => x = .normal ∧ Qn a w) fuel listed a w
  | 0, _, _, _, h => h
  | fuel + 1, listed, a, w, h => ⟨h.1, fun i hi => wpOp_FW hnd (fun a w => wpAny_FW hnd fuel _ a w) (h.2 i hi)⟩
theorem wpXS_regionIn {id : Nat} {ops : Array Oper} {Qn : Act → World → Prop} {a : Act} {w : World} {l : List (Nat × Kd3)} (hm : P.follows .mixedOrders = true) (hnd : noDef ops = true)
    (ho : (Region.noSelect ops && (Nat.beq l.length ops.size && ordOkS .any ops l (Array.replicate ops.size false))) = true)
    (h : wpXS P .any ops Qn l (fun _ _ => True) a w.drew) : (Code.region id ops true).wpIn (FW ro) n P (fun x a w => x = .normal ∧ Qn a w) a w := by
  simp only [Bool.and_eq_true] at ho
  refine wpIn_region_any hm (wpAny_FW hnd _ _ _ _ (wpAny_of_S _ (fun _ _ => True) _ _ _ ?_))
  have hl := Nat.eq_of_beq_eq_true ho.2.1
  rw [← hl]
  exact wpXS_any ho.1 l _ _ _ _ (by rw [hl]; exact ho.2.2) (fun _ => trivial) h
end
end Go.Evl
