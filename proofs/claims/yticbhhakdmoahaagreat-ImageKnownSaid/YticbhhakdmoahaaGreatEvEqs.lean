/-
  The evaluator's run as equations, for every continuation: a long run can be cut anywhere. It proves nothing of the program by itself.
-/
import Derived.Test.YticbhhakdmoahaaGreatEv16
set_option linter.unusedSimpArgs false
namespace Go.Evl
open Go Go.Sl
set_option linter.unusedVariables false
theorem evC_seq {p : Par} {n : Nat} {a b : Code} {mask N : Nat} {E : En} {H : Hp} {K : CK} : evC p (n + 1) (.seq a b) mask N E H K = evC p n a mask N E H (fun x E H => xCase x (evC p n b mask N E H K) (fun id => K (.ex id) E H) (K .ret E H)) := rfl
theorem evC_block {p : Par} {n : Nat} {id : Nat} {c : Code} {mask N : Nat} {E : En} {H : Hp} {K : CK} : evC p (n + 1) (.block id c) mask N E H K = evC p n c mask N E H (fun x E H => xCase x (K .norm E H) (fun j => Bool.rec (motive := fun _ => Bool) (K (.ex j) E H) (K .norm E H) (Nat.beq j id)) (K .ret E H)) := rfl
theorem evC_scope {p : Par} {n : Nat} {c : Code} {mask N : Nat} {E : En} {H : Hp} {K : CK} : evC p (n + 1) (.scope c) mask N E H K = evC p n c mask N E H K := rfl
/-- So many rounds of a loop. -/
noncomputable def rnds (p : Par) (c : Code) (mask N : Nat) (Kx : CK) (k n : Nat) : En → Hp → (En → Hp → Bool) → Bool := Nat.rec (motive := fun _ => En → Hp → (En → Hp → Bool) → Bool) (fun E H L => L E H)
  (fun k ih E H L => evC p (Nat.add n k) c mask N E H fun x E H => xCase x (ih E H L) (fun id => Kx (.ex id) E H) (Kx .ret E H)) k
theorem evC_loop {p : Par} {c : Code} {mask N : Nat} {K : CK} (n : Nat) : ∀ (k : Nat) (E : En) (H : Hp), evC p (Nat.add n k) (.loop c) mask N E H K = rnds p c mask N K k n E H (fun E H => evC p n (.loop c) mask N E H K)
  | 0, E, H => rfl
  | k + 1, E, H => by
    show evC p (Nat.add n k) c mask N E H (fun x E H => xCase x (evC p (Nat.add n k) (.loop c) mask N E H K) (fun id => K (.ex id) E H) (K .ret E H)) = evC p (Nat.add n k) c mask N E H fun x E H => xCase x (rnds p c mask N K k n E H (fun E H => evC p n (.loop c) mask N E H K)) (fun id => K (.ex id) E H) (K .ret E H)
    refine congrArg _ ?_
    funext x E H
    rw [evC_loop n k E H]
/-- A loop, so many rounds of which are told. -/
theorem evC_rounds {p : Par} {c : Code} {mask N k n m : Nat} {E E' : En} {H H' : Hp} (hm : Nat.add n k = m)
    (h : (fun (Kx : CK) (L : En → Hp → Bool) => rnds p c mask N Kx k n E H L) = fun _ L => L E' H') (K : CK) : evC p m (.loop c) mask N E H K = evC p n (.loop c) mask N E' H' K := by
  subst hm
  rw [evC_loop n k E H]
  exact congrFun (congrFun h K) _
/-- A piece of code whose end is told. -/
theorem evC_piece {p : Par} {n m : Nat} {a b : Code} {mask N : Nat} {E E' : En} {H H' : Hp} (hm : n + 1 = m)
    (h : (fun (K : CK) => evC p n a mask N E H K) = fun K => K .norm E' H') (K : CK) : evC p m (.seq a b) mask N E H K = evC p n b mask N E' H' K := by
  subst hm
  rw [evC_seq]
  exact congrFun h _
/-- The call, as its code's run. -/
theorem callF_body {p : Par} {n f : Nat} {c : Code} {N : Nat} {rs : List ResultVar} {H : Hp} {K : HK} (ho : p.orc f = none) (hb : fnB p.P f = some (c, N, rs)) :
    callF (evC p n) p.P p.msk p.orc f .nil H K = evC p n c (p.msk f) N .nil H (fun x E H => xCase x (resL rs p.P E H fun l => tupK l fun v => K v H) (fun _ => false) (resL rs p.P E H fun l => tupK l fun v => K v H)) := by
  unfold callF
  rw [ho, hb]
  rfl
/-- A piece of code, then what is next. -/
noncomputable def thenK (p : Par) (n : Nat) (c : Code) (mask N : Nat) (E : En) (H : Hp) (K : CK) (next : En → Hp → Bool) : Bool := evC p n c mask N E H fun x E H => xCase x (next E H) (fun id => K (.ex id) E H) (K .ret E H)
noncomputable def seqK (p : Par) (n : Nat) (b : Code) (mask N : Nat) (K : CK) : CK := fun x E H => xCase x (evC p n b mask N E H K) (fun id => K (.ex id) E H) (K .ret E H)
noncomputable def blockK (id : Nat) (K : CK) : CK := fun x E H => xCase x (K .norm E H) (fun j => Bool.rec (motive := fun _ => Bool) (K (.ex j) E H) (K .norm E H) (Nat.beq j id)) (K .ret E H)
/-- Five pieces, a loop behind a sixth, the rest. -/
theorem evC_five {p : Par} {n : Nat} {c0 c1 c2 c3 c4 c5 bd rest : Code} {i : Nat} {mask N : Nat} {E : En} {H : Hp} {K : CK} :
    evC p (n + 8) (.seq c0 (.seq c1 (.seq c2 (.seq c3 (.seq c4 (.seq (.seq c5 (.block i (.loop bd))) rest)))))) mask N E H K =
    thenK p (n + 7) c0 mask N E H K fun E H => thenK p (n + 6) c1 mask N E H K fun E H => thenK p (n + 5) c2 mask N E H K fun E H => thenK p (n + 4) c3 mask N E H K fun E H => thenK p (n + 3) c4 mask N E H K fun E H =>
      thenK p (n + 1) c5 mask N E H (seqK p (n + 2) rest mask N K) fun E H => evC p n (.loop bd) mask N E H (blockK i (seqK p (n + 2) rest mask N K)) := rfl
end Go.Evl
