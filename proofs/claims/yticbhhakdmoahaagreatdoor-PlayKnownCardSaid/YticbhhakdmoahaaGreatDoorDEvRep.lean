/-
  strings.Repeat answered by its contract. It proves nothing of the program by itself.
-/
import Derived.Test.YticbhhakdmoahaaGreatDoorDEv16
import Derived.Lib.Repeat
set_option linter.unusedVariables false
set_option linter.unusedSimpArgs false
namespace Go.Evl
open Go Go.Sl
/-- What strings.Repeat does. -/
def RepSpec (P : Program) (f : FuncId) : Prop := Callable P f ∧ ∀ (s : ByteArray) (c : Nat) (w : World), c ≤ 9223372036854775807 → s.size * c ≤ 140737488355328 →
  Calls P f #[.string s, .int .i64 c] w fun e w' => e = .returned (.string ⟨(Go.Lib.repeatL s.data.toList c).toArray⟩) ∧ Go.RowKit.Below w.heap.size w w'
noncomputable def repN (n x c : Nat) : Nat := Nat.rec (motive := fun _ => Nat) 0 (fun _ y => Nat.add (Nat.mod x (Nat.pow 256 n)) (Nat.mul (Nat.pow 256 n) y)) c
theorem repN_eq (n x : Nat) : ∀ c, bytesOf (n * c) (repN n x c) = Go.Lib.repeatL (bytesOf n x) c
  | 0 => rfl
  | c + 1 => by
    show bytesOf (n * (c + 1)) (x % 256 ^ n + 256 ^ n * repN n x c) = bytesOf n x ++ Go.Lib.repeatL (bytesOf n x) c
    rw [← repN_eq n x c, bytesOf_append, Nat.mul_succ, Nat.add_comm]
noncomputable def repF : CallF := fun _ l H K => asCons l fun s r => asCons r fun cv r2 => asNil r2 (asS s fun n x => natK n fun n => natK x fun x => asI cv fun k a => andK (Nat.beq (kc k) 3) (nn a 0 (fun c _ => natK c fun c => andK (Nat.ble c 9223372036854775807) (andK (Nat.ble (Nat.mul n c) 140737488355328) (natK (Nat.mul n c) fun len => natK (repN n x c) fun y => K (.s len y) H))) fun _ _ => false))
theorem rep_ok {P : Program} {f : FuncId} (hs : RepSpec P f) : ∀ l H K m w W0 Fr vs, Inv1 m H → Mem W0 m H Fr w → relL m l vs → repF f l H K = true → CallRes P f vs w W0 Fr m K := by
  intro l H K m w W0 Fr vs hi hm hr h
  obtain ⟨s, r, rfl, h1⟩ := asCons_sound h
  obtain ⟨cv, r2, rfl, h2⟩ := asCons_sound h1
  obtain ⟨rfl, h3⟩ := asNil_sound h2
  obtain ⟨n, x, rfl, h4⟩ := asS_sound h3
  rw [natK_eq, natK_eq] at h4
  obtain ⟨k, a, rfl, h5⟩ := asI_sound h4
  obtain ⟨hk, h6⟩ := andK_sound h5
  have hk : k = .i64 := kc_inj (k' := .i64) hk
  subst hk
  rcases nn_sound h6 with ⟨c, _, rfl, _, h7⟩ | h7
  rotate_left
  · cases h7
  rw [natK_eq] at h7
  obtain ⟨h8, h9⟩ := andK_sound h7
  obtain ⟨h10, h11⟩ := andK_sound h9
  rw [natK_eq, natK_eq] at h11
  obtain ⟨u, us, r1, ⟨u2, us2, r3, r4, rfl⟩, rfl⟩ := hr
  have r1 : u = strV (bytesOf n x) := r1
  have r3 : u2 = .int .i64 (c : Int) := r3
  have r4 : us2 = [] := r4
  subst r1 r3 r4
  have hl : (bytesOf n x).length = n := bytesOf_length n x
  have hsz : (ByteArray.mk (bytesOf n x).toArray).size = n := by show (bytesOf n x).toArray.size = n; simp [hl]
  have hc := hs.2 ⟨(bytesOf n x).toArray⟩ c w (Nat.le_of_ble_eq_true h8) (by rw [hsz]; exact Nat.le_of_ble_eq_true h10)
  refine .inl ⟨hs.1, hc.mono ?_⟩
  rintro e w' ⟨rfl, hb⟩
  refine ⟨_, rfl, m, H, .s (Nat.mul n c) (repN n x c), Map.le_refl m, hi, ?_, ?_, h11⟩
  · show _ = strV (bytesOf (n * c) (repN n x c))
    rw [repN_eq]
  · exact Sat.same hm ⟨hb.os, hb.tape, hb.output, hb.size⟩ hb.block
end Go.Evl
