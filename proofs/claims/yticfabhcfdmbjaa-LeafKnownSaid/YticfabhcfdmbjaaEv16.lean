/-
  Calls that the evaluator answers by themselves. It proves nothing of the program by itself.
-/
import Derived.Test.YticfabhcfdmbjaaEv15
set_option linter.unusedVariables false
set_option linter.unusedSimpArgs false
namespace Go.Evl
open Go Go.Sl
noncomputable def noZeroF (el : TypeId) : CallF := fun _ l H K => asCons l fun v t => asNil t (asI v fun k a => andK (Nat.beq (kc k) 3) (nn a 0 (fun n _ => andK (Nat.ble n 281474976710656) (natK n fun n => newK H el 1 (.bu n 0 0) fun id H => K (.sv id 0 n 0) H)) fun _ _ => false))
theorem noZero_ok {P : Program} {f : FuncId} {fn : Func} {t el : TypeId} {ps : Array TypeId} (hf : P.funcs[f]? = some fn) (hname : (fn.name == "runtime.NumGoroutine") = false) (hb : fn.body.isNone = true) (hn : Extern.findNext fn = none)
    (he : Extern.find fn = some (Extern.BytealgMakeNoZero.makeNoZero ps #[t])) (ht : P.underlying t = some (.slice el)) :
    ∀ l H K m w W0 Fr vs, Inv1 m H → Mem W0 m H Fr w → relL m l vs → noZeroF el f l H K = true → CallRes P f vs w W0 Fr m K := by
  intro l H K m w W0 Fr vs hi hs hr h
  obtain ⟨v, t', rfl, h1⟩ := asCons_sound h
  obtain ⟨rfl, h2⟩ := asNil_sound h1
  obtain ⟨k, a, rfl, h3⟩ := asI_sound h2
  obtain ⟨hk, h3⟩ := andK_sound h3
  have hk : k = .i64 := kc_inj (k' := .i64) hk
  subst hk
  rcases nn_sound h3 with ⟨n0, _, rfl, _, h3⟩ | h3
  rotate_left
  · cases h3
  obtain ⟨h4, h5⟩ := andK_sound h3
  rw [natK_eq, newK_eq] at h5
  obtain ⟨u, us, r1, r2, rfl⟩ := hr
  have hu : u = .int .i64 (n0 : Int) := r1
  have hus : us = [] := r2
  subst hu hus
  have hle : n0 ≤ 281474976710656 := Nat.le_of_ble_eq_true h4
  obtain ⟨cs, k1, k2, k3⟩ := Go.Lib.run_makeNoZero w ps t el ht n0 hle
  have k3 : cs.size ≤ 9223372036854775807 := by have := k3 (by unfold maxLen; omega); unfold maxLen at this; simpa using this
  right
  have hrun : (callFunc f ([Value.int .i64 (n0 : Int)] : List Value).toArray).run P w = .ok (.value (slc w.heap.size 0 n0 cs.size)) (w.drew.drew.alloc (.cells cs el)) := by
    simp only [callFunc, Sem.run_bind, run_program, Result.andThen_ok, hf, hname, Bool.false_eq_true, if_false, hb, if_true, hn, he]
    simp [k1]
  have s1 := hs.drew.drew.newRow el cs.toList
  have s2 : Sat W0 (sep (row w.heap.size el (cs.toList.take n0 ++ cs.toList.drop n0) :: (hpA m H.t ++ [Fr]))) (w.drew.drew.alloc (.cells cs el)) := by
    rw [List.take_append_drop]
    simpa using s1
  have hl : cs.toList.length = cs.size := by simp
  obtain ⟨q1, q2, q3, q4⟩ := Mem.new (z := 1) (cap := cs.size) (c := .bu n0 0 0) hi s2 (show bodyRel m (.bu n0 0 0) _ from ⟨by rw [List.length_take]; omega, Nat.zero_le _, by simp [bytesOf]⟩)
    (show restOk 1 cs.size _ _ from ⟨fun h => (by cases h), fun _ => ⟨by simp, k3, n0, by rw [List.length_take]; omega⟩⟩)
  exact ⟨_, _, hrun, _, _, .sv H.next 0 n0 0, q1, q2, ⟨w.heap.size, cs.size, q3, by omega, rfl⟩, q4, h5⟩
end Go.Evl
