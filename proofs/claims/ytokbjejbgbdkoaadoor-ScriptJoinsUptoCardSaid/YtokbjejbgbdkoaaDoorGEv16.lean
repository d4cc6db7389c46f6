/-
  Calls that the evaluator answers by themselves. It proves nothing of the program by itself.
-/
import Derived.Test.YtokbjejbgbdkoaaDoorGEv15
import Derived.Lib.Bytealg
import Derived.Laws.Externs
set_option linter.unusedVariables false
set_option linter.unusedSimpArgs false
namespace Go.Evl
open Go Go.Sl
noncomputable def noEscF : CallF := fun _ l H K => asCons l fun v t => asNil t (forceK v fun v => K v H)
theorem noEsc_ok {P : Program} {f : FuncId} {fn : Func} (hf : P.funcs[f]? = some fn) (hname : (fn.name == "runtime.NumGoroutine") = false) (hb : fn.body.isNone = true) (hn : Extern.findNext fn = none)
    (he : Extern.find fn = some Extern.AbiNoEscape.same) : ∀ l H K m w W0 Fr vs, Inv1 m H → Mem W0 m H Fr w → relL m l vs → noEscF f l H K = true → CallRes P f vs w W0 Fr m K := by
  intro l H K m w W0 Fr vs hi hs hr h
  obtain ⟨v, t', rfl, h1⟩ := asCons_sound h
  obtain ⟨rfl, h2⟩ := asNil_sound h1
  rw [forceK_eq] at h2
  obtain ⟨u, us, r1, r2, rfl⟩ := hr
  have hus : us = [] := r2
  subst hus
  right
  have hrun : (callFunc f ([u] : List Value).toArray).run P w = .ok (.value u) w := by
    simp only [callFunc, Sem.run_bind, run_program, Result.andThen_ok, hf, hname, Bool.false_eq_true, if_false, hb, if_true, hn, he]
    rfl
  exact ⟨u, w, hrun, m, H, v, Map.le_refl m, hi, r1, hs, h2⟩
/-- How often a byte stands among n bytes. -/
noncomputable def cntB (c : Nat) (n : Nat) : Nat → Nat := Nat.rec (motive := fun _ => Nat → Nat) (fun _ => 0) (fun _ ih num => Nat.add (ih (Nat.div num 256)) (Bool.rec (motive := fun _ => Nat) 0 1 (Nat.beq (Nat.mod num 256) c))) n
theorem cntB_eq {c : Nat} (hc : c < 256) : ∀ (n num : Nat), cntB c n num = (bytesOf n num).count (UInt8.ofNat c)
  | 0, _ => rfl
  | n + 1, num => by
    show cntB c n (num / 256) + Bool.rec (motive := fun _ => Nat) 0 1 (Nat.beq (num % 256) c) = _
    rw [cntB_eq hc n (num / 256), bytesOf, List.count_cons]
    congr 1
    have hm : (UInt8.ofNat num == UInt8.ofNat c) = Nat.beq (num % 256) c := by
      have h1 : (UInt8.ofNat num).toNat = num % 256 := UInt8.toNat_ofNat'
      have h2 : (UInt8.ofNat c).toNat = c := by rw [UInt8.toNat_ofNat']; exact Nat.mod_eq_of_lt hc
      by_cases g : num % 256 = c
      · have e1 : UInt8.ofNat num = UInt8.ofNat c := UInt8.toNat_inj.1 (by rw [h1, h2, g])
        rw [e1, g]; simp
      · have e1 : ¬ UInt8.ofNat num = UInt8.ofNat c := fun e => g (by rw [← h1, e, h2])
        rw [beq_ne g]
        exact beq_eq_false_iff_ne.2 e1
    rw [hm]
    cases Nat.beq (num % 256) c <;> rfl
end Go.Evl
namespace Go.Evl
open Go Go.Sl
noncomputable def cntSF : CallF := fun _ l H K => asCons l fun s t => asCons t fun cv t2 => asNil t2 (asByte cv fun c => asS s fun len num => natK (cntB c len num) fun r => K (.i .i64 (Int.ofNat r)) H)
theorem cntS_ok {P : Program} {f : FuncId} {fn : Func} (hf : P.funcs[f]? = some fn) (hname : (fn.name == "runtime.NumGoroutine") = false) (hb : fn.body.isNone = true) (hn : Extern.findNext fn = none)
    (he : Extern.find fn = some Extern.BytealgCount.count) : ∀ l H K m w W0 Fr vs, Inv1 m H → Mem W0 m H Fr w → relL m l vs → cntSF f l H K = true → CallRes P f vs w W0 Fr m K := by
  intro l H K m w W0 Fr vs hi hs hr h
  obtain ⟨s, t, rfl, h1⟩ := asCons_sound h
  obtain ⟨cv, t2, rfl, h2⟩ := asCons_sound h1
  obtain ⟨rfl, h3⟩ := asNil_sound h2
  obtain ⟨c, rfl, hc, h4⟩ := asByte_sound h3
  obtain ⟨u, us, r1, ⟨u2, us2, r2, r3, rfl⟩, rfl⟩ := hr
  have r3 : us2 = [] := r3
  subst r3
  have r2 : u2 = .int .u8 (c : Int) := r2
  subst r2
  obtain ⟨n, num, rfl, h5⟩ := asS_sound h4
  have r1 : u = strV (bytesOf n num) := r1
  subst r1
  rw [natK_eq, cntB_eq hc] at h5
  have hcs := Go.Lib.run_countString (P := P) ⟨(bytesOf n num).toArray⟩ (c : Int) w
  have hrun : (Extern.BytealgCount.count #[strV (bytesOf n num), .int .u8 (c : Int)]).run P w = .ok (.int .i64 ((bytesOf n num).count (UInt8.ofNat c) : Nat)) w := by
    rw [show strV (bytesOf n num) = .string ⟨(bytesOf n num).toArray⟩ from rfl, hcs]
    unfold Go.Lib.countByte
    simp
  right
  have hcall : (callFunc f ([strV (bytesOf n num), Value.int .u8 (c : Int)] : List Value).toArray).run P w = .ok (.value (.int .i64 ((bytesOf n num).count (UInt8.ofNat c) : Nat))) w := by
    simp only [callFunc, Sem.run_bind, run_program, Result.andThen_ok, hf, hname, Bool.false_eq_true, if_false, hb, if_true, hn, he]
    simp [hrun]
  exact ⟨_, w, hcall, m, H, .i .i64 (Int.ofNat ((bytesOf n num).count (UInt8.ofNat c))), Map.le_refl m, hi, rfl, hs, h5⟩
end Go.Evl
namespace Go.Evl
open Go Go.Sl
/-- The first place of a byte among n bytes; n where it is not there. -/
noncomputable def posB (c : Nat) (n : Nat) : Nat → Nat := Nat.rec (motive := fun _ => Nat → Nat) (fun _ => 0) (fun _ ih num => Bool.rec (motive := fun _ => Nat) (Nat.succ (ih (Nat.div num 256))) 0 (Nat.beq (Nat.mod num 256) c)) n
theorem posB_eq {c : Nat} (hc : c < 256) : ∀ (n num : Nat), posB c n num = (bytesOf n num).findIdx (· == UInt8.ofNat c)
  | 0, _ => rfl
  | n + 1, num => by
    show Bool.rec (motive := fun _ => Nat) (Nat.succ (posB c n (num / 256))) 0 (Nat.beq (num % 256) c) = _
    rw [posB_eq hc n (num / 256), bytesOf, List.findIdx_cons]
    have hm : (UInt8.ofNat num == UInt8.ofNat c) = Nat.beq (num % 256) c := by
      have h1 : (UInt8.ofNat num).toNat = num % 256 := UInt8.toNat_ofNat'
      have h2 : (UInt8.ofNat c).toNat = c := by rw [UInt8.toNat_ofNat']; exact Nat.mod_eq_of_lt hc
      by_cases g : num % 256 = c
      · have e1 : UInt8.ofNat num = UInt8.ofNat c := UInt8.toNat_inj.1 (by rw [h1, h2, g])
        rw [e1, g]; simp
      · have e1 : ¬ UInt8.ofNat num = UInt8.ofNat c := fun e => g (by rw [← h1, e, h2])
        rw [beq_ne g]
        exact beq_eq_false_iff_ne.2 e1
    rw [hm]
    cases Nat.beq (num % 256) c <;> rfl
theorem firstIdx_eq (l : List UInt8) (x : UInt8) : Go.firstIdx ⟨l.toArray⟩ x = if l.findIdx (· == x) = l.length then -1 else ((l.findIdx (· == x) : Nat) : Int) := by
  have hg : ∀ i (h : i < l.length), (⟨l.toArray⟩ : ByteArray)[i]! = l[i] := by
    intro i h
    have hs : i < (⟨l.toArray⟩ : ByteArray).size := by simpa [ByteArray.size] using h
    rw [getElem!_pos (⟨l.toArray⟩ : ByteArray) i hs]
    simp [ByteArray.getElem_eq_getElem_data]
  have hsz : (⟨l.toArray⟩ : ByteArray).size = l.length := by simp [ByteArray.size]
  unfold Go.firstIdx
  rw [hsz]
  cases h : (List.range l.length).find? fun i => (⟨l.toArray⟩ : ByteArray)[i]! == x with
  | none =>
    have h' := List.find?_eq_none.1 h
    have : l.findIdx (· == x) = l.length := by
      rw [List.findIdx_eq_length]
      intro y hy
      obtain ⟨i, hi, rfl⟩ := List.mem_iff_getElem.1 hy
      have := h' i (List.mem_range.2 hi)
      rw [hg i hi] at this
      simpa using this
    rw [if_pos this]
  | some i =>
    obtain ⟨h1, h2, h3⟩ := List.find?_range_eq_some.1 h
    have hi : i < l.length := List.mem_range.1 h2
    have : l.findIdx (· == x) = i := by
      rw [List.findIdx_eq hi]
      refine ⟨by rw [hg i hi] at h1; exact h1, fun j hj => ?_⟩
      have := h3 j hj
      rw [hg j (by omega)] at this
      simpa using this
    rw [this, if_neg (by omega)]
noncomputable def idxSF : CallF := fun _ l H K => asCons l fun s t => asCons t fun cv t2 => asNil t2 (asByte cv fun c => asS s fun len num => natK (posB c len num) fun r => Bool.rec (motive := fun _ => Bool) (K (.i .i64 (Int.ofNat r)) H) (K (.i .i64 (Int.negSucc 0)) H) (Nat.beq r len))
theorem idxS_ok {P : Program} {f : FuncId} {fn : Func} (hf : P.funcs[f]? = some fn) (hname : (fn.name == "runtime.NumGoroutine") = false) (hb : fn.body.isNone = true) (hn : Extern.findNext fn = none)
    (he : Extern.find fn = some Extern.BytealgIndexByte.indexByte) : ∀ l H K m w W0 Fr vs, Inv1 m H → Mem W0 m H Fr w → relL m l vs → idxSF f l H K = true → CallRes P f vs w W0 Fr m K := by
  intro l H K m w W0 Fr vs hi hs hr h
  obtain ⟨s, t, rfl, h1⟩ := asCons_sound h
  obtain ⟨cv, t2, rfl, h2⟩ := asCons_sound h1
  obtain ⟨rfl, h3⟩ := asNil_sound h2
  obtain ⟨c, rfl, hc, h4⟩ := asByte_sound h3
  obtain ⟨u, us, r1, ⟨u2, us2, r2, r3, rfl⟩, rfl⟩ := hr
  have r3 : us2 = [] := r3
  subst r3
  have r2 : u2 = .int .u8 (c : Int) := r2
  subst r2
  obtain ⟨n, num, rfl, h5⟩ := asS_sound h4
  have r1 : u = strV (bytesOf n num) := r1
  subst r1
  rw [natK_eq, posB_eq hc] at h5
  have hcs := Go.run_indexByte_string (P := P) ⟨(bytesOf n num).toArray⟩ (c : Int) w
  rw [firstIdx_eq, show ((c : Int).toNat.toUInt8) = UInt8.ofNat c from by simp, bytesOf_length] at hcs
  generalize hk : (bytesOf n num).findIdx (· == UInt8.ofNat c) = k at h5 hcs
  right
  have hcall : ∀ r, (Extern.BytealgIndexByte.indexByte #[strV (bytesOf n num), .int .u8 (c : Int)]).run P w = .ok r w → (callFunc f ([strV (bytesOf n num), Value.int .u8 (c : Int)] : List Value).toArray).run P w = .ok (.value r) w := by
    intro r hrun
    simp only [callFunc, Sem.run_bind, run_program, Result.andThen_ok, hf, hname, Bool.false_eq_true, if_false, hb, if_true, hn, he]
    simp [hrun]
  cases hbk : Nat.beq k n with
  | true =>
    rw [hbk] at h5
    rw [if_pos (Nat.eq_of_beq_eq_true hbk)] at hcs
    exact ⟨_, w, hcall _ hcs, m, H, .i .i64 (Int.negSucc 0), Map.le_refl m, hi, rfl, hs, h5⟩
  | false =>
    rw [hbk] at h5
    rw [if_neg (fun e => by rw [e] at hbk; simp at hbk)] at hcs
    exact ⟨_, w, hcall _ hcs, m, H, .i .i64 (Int.ofNat k), Map.le_refl m, hi, rfl, hs, h5⟩
end Go.Evl
