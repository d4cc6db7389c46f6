/-
  The evaluator's oracle for bytealg.CountString. It proves nothing of a program by itself.
-/
import Derived.Test.YtokbjejbgbdkoaaDoorGEv16
set_option linter.unusedSimpArgs false
namespace Go.Evl
open Go Go.Sl
set_option linter.unusedVariables false
noncomputable def cntSF : CallF := fun _ l H K => asCons l fun s t => asCons t fun cv t2 => asNil t2 (asByte cv fun c => asS s fun len num => natK (cntB c len num) fun r => K (.i .i64 (Int.ofNat r)) H)
theorem cntS_ok {P : Program} {f : FuncId} {fn : Func} (hf : P.funcs[f]? = some fn) (hname : (fn.name == "runtime.NumGoroutine") = false) (hb : fn.body.isNone = true) (hn : Extern.findNext fn = none)
    (he : Extern.find fn = some Extern.BytealgCount.count) : ∀ l H K m w W0 Fr vs, Inv1 m H → Mem W0 m H Fr w → relL m l vs → cntSF f l H K = true → CallRes P f vs w W0 Fr m K := by
  intro l H K m w W0 Fr vs hi hs hr h
  obtain ⟨s, t, rfl, h1⟩ := asCons_sound h
  obtain ⟨cv, t2, rfl, h2⟩ := asCons_sound h1
  obtain ⟨rfl, h3⟩ := asNil_sound h2
  obtain ⟨c, rfl, hc, h4⟩ := asByte_sound h3
  obtain ⟨u, us, r1, ⟨u2, us2, r2, r3, rfl⟩, rfl⟩ := hr
  have r3 : us2 = [] := r3
  subst r3
  have r2 : u2 = .int .u8 (c : Int) := r2
  subst r2
  obtain ⟨n, num, rfl, h5⟩ := asS_sound h4
  have r1 : u = strV (bytesOf n num) := r1
  subst r1
  rw [natK_eq, cntB_eq hc] at h5
  have hcs := Go.Lib.run_countString (P := P) ⟨(bytesOf n num).toArray⟩ (c : Int) w
  have hrun : (Extern.BytealgCount.count #[strV (bytesOf n num), .int .u8 (c : Int)]).run P w = .ok (.int .i64 ((bytesOf n num).count (UInt8.ofNat c) : Nat)) w := by
    rw [show strV (bytesOf n num) = .string ⟨(bytesOf n num).toArray⟩ from rfl, hcs]
    unfold Go.Lib.countByte
    simp
  right
  have hcall : (callFunc f ([strV (bytesOf n num), Value.int .u8 (c : Int)] : List Value).toArray).run P w = .ok (.value (.int .i64 ((bytesOf n num).count (UInt8.ofNat c) : Nat))) w := by
    simp only [callFunc, Sem.run_bind, run_program, Result.andThen_ok, hf, hname, Bool.false_eq_true, if_false, hb, if_true, hn, he]
    simp [hrun]
  exact ⟨_, w, hcall, m, H, .i .i64 (Int.ofNat ((bytesOf n num).count (UInt8.ofNat c))), Map.le_refl m, hi, rfl, hs, h5⟩
end Go.Evl
