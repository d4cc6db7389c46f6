/-
  The evaluator's quiet operations: slices, literals, lengths. It proves nothing of the program by itself.
-/
import Derived.Test.YtokbjejbgbdkoaaGreatGEv6
set_option linter.unusedVariables false
set_option linter.unusedSimpArgs false
namespace Go.Evl
open Go Go.Sl
section
variable {P : Program} {e : Env} {o : Oper} {m : Map} {L E : En} {K : AV → Bool} {x y : Operand}

/-! ### Slices -/
/-- A bound that is written, or what it is where none is. -/
noncomputable def boundK (b : Option Operand) (d : Nat) (L E : En) (K : Nat → Bool) : Bool := Option.rec (motive := fun _ => Nat → En → En → (Nat → Bool) → Bool) (fun d _ _ K => K d) (fun x _ L E K => asN (opV x L E) K) b d L E K
theorem boundK_lo {b : Option Operand} {K : Nat → Bool} (he : EnvRel m L E e) (h : boundK b 0 L E K = true) : ∃ l : Nat, loOf e b = some (l : Int) ∧ K l = true := by
  cases b with
  | none => exact ⟨0, rfl, h⟩
  | some x =>
    obtain ⟨k, n, h1, h2⟩ := asN_sound (v := opV x L E) h
    exact ⟨n, by simp [loOf, opI he h1], h2⟩
theorem boundK_hi {b : Option Operand} {n : Nat} {K : Nat → Bool} (he : EnvRel m L E e) (h : boundK b n L E K = true) : ∃ l : Nat, hiOf e n b = some (l : Int) ∧ K l = true := by
  cases b with
  | none => exact ⟨n, rfl, h⟩
  | some x =>
    obtain ⟨k, n', h1, h2⟩ := asN_sound (v := opV x L E) h
    exact ⟨n', by simp [hiOf, opI he h1], h2⟩
/-- x[l:h], at a row that is known to its end. -/
noncomputable def cutSl (id off cap sz l h : Nat) (K : AV → Bool) : Bool :=
  andK (Nat.ble l h) (andK (Nat.ble h cap) (natK (Nat.sub h l) fun n => natK (Nat.sub cap l) fun c => Bool.rec (motive := fun _ => Bool) (natK (Nat.add off (Nat.mul l sz)) fun o => K (.sl id o n c)) (K (.sl id off n c)) (Nat.beq cap l)))
/-- x[l:h], at a row that has grown. -/
noncomputable def cutSv (id off n k sz l h : Nat) (K : AV → Bool) : Bool :=
  andK (Nat.ble l h) (andK (Nat.ble h n) (Bool.rec (motive := fun _ => Bool) (Bool.rec (motive := fun _ => Bool) (K .se) (K (.sv id off 0 k)) (Nat.beq l 0))
    (natK (Nat.add off (Nat.mul l sz)) fun o => natK (Nat.sub h l) fun n => natK (Nat.add k l) fun k => K (.sv id o n k)) (Nat.blt l n)))
noncomputable def cutStr (len n l h : Nat) (K : AV → Bool) : Bool := andK (Nat.ble l h) (andK (Nat.ble h len) (natK (Nat.sub h l) fun k => natK (Nat.mod (Nat.div n (Nat.pow 256 l)) (Nat.pow 256 k)) fun r => K (.s k r)))
noncomputable def sliceV (x : AV) (P : Program) (t : TypeId) (lo hi : Option Operand) (L E : En) (K : AV → Bool) : Bool := AV.rec (motive := fun _ => (Program) → (TypeId) → (Option Operand) → (Option Operand) → (En) → (En) → (AV → Bool) → Bool) (fun _ _ _ _ _ _ _ => false) (fun _ _ _ _ _ _ _ _ => false) (fun _ _ _ _ _ _ _ _ _ => false) (fun len n P t lo hi L E K => andK (Nat.beq (tyc P t) 7) (boundK lo 0 L E fun l => boundK hi len L E fun h => cutStr len n l h K)) (fun _ _ _ _ _ _ _ => false) (fun id off P t lo hi L E K => optK (idxB P t) fun q => andK q.1 (boundK lo 0 L E fun l => boundK hi q.2.1 L E fun h => cutSl id off q.2.1 q.2.2 l h K)) (fun  P t lo hi L E K => optK (idxB P t) fun q => andK (Bool.rec (motive := fun _ => Bool) true false q.1) (boundK lo 0 L E fun l => boundK hi 0 L E fun h => andK (Nat.beq l 0) (andK (Nat.beq h 0) (K .sn)))) (fun  P t lo hi L E K => optK (idxB P t) fun q => andK (Bool.rec (motive := fun _ => Bool) true false q.1) (boundK lo 0 L E fun l => boundK hi 0 L E fun h => andK (Nat.beq l 0) (andK (Nat.beq h 0) (K .se)))) (fun id off n cap P t lo hi L E K => optK (idxB P t) fun q => andK (Bool.rec (motive := fun _ => Bool) true false q.1) (boundK lo 0 L E fun l => boundK hi n L E fun h => cutSl id off cap q.2.2 l h K)) (fun id off n k P t lo hi L E K => optK (idxB P t) fun q => andK (Bool.rec (motive := fun _ => Bool) true false q.1) (boundK lo 0 L E fun l => boundK hi n L E fun h => cutSv id off n k q.2.2 l h K)) (fun _ _ _ _ _ _ _ => false) (fun _ _ _ _ _ _ _ _ => false) (fun _ _ _ _ _ _ _ _ _ _ => false) (fun _ _ _ _ _ _ _ => false) (fun _ _ _ _ _ _ _ => false) (fun _ _ _ _ _ _ _ _ _ _ => false) (fun _ _ _ _ _ _ _ => false) (fun _ _ _ _ _ _ _ _ _ _ _ => false) (fun _ _ _ _ _ _ _ _ _ => false) (fun _ _ _ _ _ _ _ _ _ => false) x P t lo hi L E K
noncomputable def slice3V (x : AV) (h mx : Nat) (K : AV → Bool) : Bool := AV.rec (motive := fun _ => (Nat) → (Nat) → (AV → Bool) → Bool) (fun _ _ _ => false) (fun _ _ _ _ => false) (fun _ _ _ _ _ => false) (fun _ _ _ _ _ => false) (fun _ _ _ => false) (fun _ _ _ _ _ => false) (fun _ _ _ => false) (fun _ _ _ => false) (fun id off n cap h mx K => andK (Nat.ble h mx) (andK (Nat.ble mx cap) (K (.sl id off h mx)))) (fun id off n k h mx K => andK (Nat.ble h mx) (andK (Nat.ble mx n) (K (.sl id off h mx)))) (fun _ _ _ => false) (fun _ _ _ _ => false) (fun _ _ _ _ _ _ => false) (fun _ _ _ => false) (fun _ _ _ => false) (fun _ _ _ _ _ _ => false) (fun _ _ _ => false) (fun _ _ _ _ _ _ _ => false) (fun _ _ _ _ _ => false) (fun _ _ _ _ _ => false) x h mx K
noncomputable def isNone (b : Option Operand) (x : Bool) : Bool := Option.rec (motive := fun _ => Bool → Bool) (fun x => x) (fun _ _ => false) b x
theorem isNone_sound {b : Option Operand} {x : Bool} (h : isNone b x = true) : b = none ∧ x = true := by cases b with
  | none => exact ⟨rfl, h⟩
  | some _ => cases h
noncomputable def pSlice (t : TypeId) (x : Operand) (lo hi mx : Option Operand) (P : Program) (L E : En) (K : AV → Bool) : Bool :=
  Option.rec (motive := fun _ => TypeId → Operand → Option Operand → Option Operand → Program → En → En → (AV → Bool) → Bool) (fun t x lo hi P L E K => sliceV (opV x L E) P t lo hi L E K)
    (fun y t x lo hi P L E K => isNone lo (optK (idxB P t) fun q => andK (Bool.rec (motive := fun _ => Bool) true false q.1) (optK hi fun u => asN (opV u L E) fun h => asN (opV y L E) fun mx => slice3V (opV x L E) h mx K))) mx t x lo hi P L E K
theorem cutSl_sound {id off cap sz l h b c n : Nat} {t el : TypeId} {lo hi : Option Operand} (hop : o.op = .slice t x lo hi none) (ht : P.underlying t = some (.slice el)) (hsz : TySize P el sz) (hm : m id = some (b, c)) (hx : ev e x = slc b off n cap)
    (hl : loOf e lo = some (l : Int)) (hh : hiOf e n hi = some (h : Int)) (hk : cutSl id off cap sz l h K = true) : PS P e o m K := by
  obtain ⟨h1, h2⟩ := andK_sound hk
  obtain ⟨h3, h4⟩ := andK_sound h2
  rw [natK_eq, natK_eq] at h4
  have h1 := Nat.le_of_ble_eq_true h1
  have h3 := Nat.le_of_ble_eq_true h3
  have hr := p_sliceN (P := P) hop ht hsz hx hl hh ⟨h1, h3⟩
  by_cases g : cap = l
  · rw [if_pos g] at hr
    rw [show Nat.beq cap l = true from by rw [g]; simp] at h4
    exact PS.mk1 (av := .sl _ _ _ _) hr ⟨b, c, hm, rfl, Nat.sub_le_sub_right h3 l⟩ h4
  · rw [if_neg g] at hr
    rw [beq_ne g] at h4
    have h4 : natK (Nat.add off (Nat.mul l sz)) (fun o => K (.sl id o (Nat.sub h l) (Nat.sub cap l))) = true := h4
    rw [natK_eq] at h4
    exact PS.mk1 (av := .sl _ _ _ _) hr ⟨b, c, hm, rfl, Nat.sub_le_sub_right h3 l⟩ h4
theorem not_rec_t {q : Bool} (h : Bool.rec (motive := fun _ => Bool) true false q = true) : q = false := by cases q <;> first | rfl | cases h
theorem run_hiOf0 {b : Option Operand} {n : Nat} {h : Int} (hh : hiOf e n b = some h) : hiOf e n b = some h := hh
theorem pSlice_sound {t : TypeId} {lo hi mx : Option Operand} (hop : o.op = .slice t x lo hi mx) (he : EnvRel m L E e) (h : pSlice t x lo hi mx P L E K = true) : PS P e o m K := by
  cases mx with
  | none =>
    have h : sliceV (opV x L E) P t lo hi L E K = true := h
    unfold sliceV at h
    generalize hv : opV x L E = v at h
    have hr := opR he hv
    cases v with
    | s len n =>
      obtain ⟨h1, h2⟩ := andK_sound h
      obtain ⟨l, h3, h4⟩ := boundK_lo he h2
      obtain ⟨hh, h5, h6⟩ := boundK_hi he h4
      obtain ⟨h7, h8⟩ := andK_sound h6
      obtain ⟨h9, h10⟩ := andK_sound h8
      rw [natK_eq, natK_eq] at h10
      have h7 := Nat.le_of_ble_eq_true h7
      have h9 := Nat.le_of_ble_eq_true h9
      refine PS.mk1 (av := .s _ _) (p_sliceN_s (l := l) (h := hh) hop (tyc7 h1) (opS he hv) h3 (by rw [bytesOf_length]; exact h5) ⟨h7, by rw [bytesOf_length]; exact h9⟩) ?_ h10
      show strV _ = strV _
      rw [bytesOf_take hh len n h9, bytesOf_drop]
      show strV (bytesOf (hh - l) (n / 256 ^ l)) = strV (bytesOf (hh - l) (n / 256 ^ l % 256 ^ (hh - l)))
      rw [bytesOf_mod]
    | sl id off n cap =>
      obtain ⟨⟨arr, n', sz⟩, h1, h2⟩ := optK_sound h
      obtain ⟨h3, h4⟩ := andK_sound h2
      have h3 : arr = false := not_rec_t h3
      subst h3
      obtain ⟨l, h5, h6⟩ := boundK_lo he h4
      obtain ⟨hh, h7, h8⟩ := boundK_hi he h6
      obtain ⟨el, h9, h10⟩ := idxB_f h1
      obtain ⟨b, c, r1, r2, r3⟩ := hr
      exact cutSl_sound hop h9 h10 r1 r2 h5 h7 h8
    | sv id off n k =>
      obtain ⟨⟨arr, n', sz⟩, h1, h2⟩ := optK_sound h
      obtain ⟨h3, h4⟩ := andK_sound h2
      have h3 : arr = false := not_rec_t h3
      subst h3
      obtain ⟨l, h5, h6⟩ := boundK_lo he h4
      obtain ⟨hh, h7, h8⟩ := boundK_hi he h6
      obtain ⟨el, h9, h10⟩ := idxB_f h1
      obtain ⟨b, c, r1, r2, r3⟩ := hr
      obtain ⟨h11, h12⟩ := andK_sound h8
      obtain ⟨h13, h14⟩ := andK_sound h12
      have h11 := Nat.le_of_ble_eq_true h11
      have h13 := Nat.le_of_ble_eq_true h13
      have hp := p_sliceN (P := P) hop h9 h10 r3 h5 h7 ⟨h11, by omega⟩
      rw [rec_blt] at h14
      by_cases g : l < n
      · rw [if_pos g, natK_eq, natK_eq, natK_eq] at h14
        rw [if_neg (by omega)] at hp
        refine PS.mk1 (av := .sv _ _ _ _) hp ⟨b, c, r1, ?_, ?_⟩ h14
        · show hh - l + (k + l) ≤ c; omega
        · show slc b _ _ _ = slc b _ (hh - l) (c - (k + l)); rw [Nat.sub_sub]; rfl
      · rw [if_neg g] at h14
        have hl : hh = l := by omega
        subst hl
        cases hb : Nat.beq hh 0 with
        | true =>
          have := Nat.eq_of_beq_eq_true hb
          subst this
          rw [hb] at h14
          refine PS.mk1 (av := .sv _ _ _ _) hp ⟨b, c, r1, by omega, ?_⟩ h14
          simp
        | false =>
          rw [hb] at h14
          refine PS.mk1 (av := .se) hp ?_ h14
          exact ⟨_, _, by rw [Nat.sub_self]⟩
    | sn =>
      obtain ⟨⟨arr, n', sz⟩, h1, h2⟩ := optK_sound h
      obtain ⟨h3, h4⟩ := andK_sound h2
      have h3 : arr = false := not_rec_t h3
      subst h3
      obtain ⟨l, h5, h6⟩ := boundK_lo he h4
      obtain ⟨hh, h7, h8⟩ := boundK_hi he h6
      obtain ⟨el, h9, h10⟩ := idxB_f h1
      obtain ⟨h11, h12⟩ := andK_sound h8
      obtain ⟨h13, h14⟩ := andK_sound h12
      have h11 := Nat.eq_of_beq_eq_true h11
      have h13 := Nat.eq_of_beq_eq_true h13
      subst h11 h13
      have hp := run_sliceAny (P := P) hop h9 h10 hr h5 h7 ⟨Nat.le_refl _, Nat.le_refl _⟩
      exact PS.mk1 (av := .sn) hp rfl h14
    | se =>
      obtain ⟨⟨arr, n', sz⟩, h1, h2⟩ := optK_sound h
      obtain ⟨h3, h4⟩ := andK_sound h2
      have h3 : arr = false := not_rec_t h3
      subst h3
      obtain ⟨l, h5, h6⟩ := boundK_lo he h4
      obtain ⟨hh, h7, h8⟩ := boundK_hi he h6
      obtain ⟨el, h9, h10⟩ := idxB_f h1
      obtain ⟨h11, h12⟩ := andK_sound h8
      obtain ⟨h13, h14⟩ := andK_sound h12
      have h11 := Nat.eq_of_beq_eq_true h11
      have h13 := Nat.eq_of_beq_eq_true h13
      subst h11 h13
      obtain ⟨a, c, r1⟩ := hr
      have hp := run_sliceAny (P := P) hop h9 h10 r1 h5 h7 ⟨Nat.le_refl _, Nat.zero_le _⟩
      exact PS.mk1 (av := .se) hp ⟨_, _, rfl⟩ h14
    | p id off =>
      obtain ⟨⟨arr, n', sz⟩, h1, h2⟩ := optK_sound h
      obtain ⟨h3, h4⟩ := andK_sound h2
      have h3 : arr = true := h3
      subst h3
      obtain ⟨l, h5, h6⟩ := boundK_lo he h4
      obtain ⟨hh, h7, h8⟩ := boundK_hi he h6
      obtain ⟨el, h9, h10⟩ := idxB_t h1
      obtain ⟨b, c, r1, r2⟩ := hr
      obtain ⟨h11, h12⟩ := andK_sound h8
      obtain ⟨h13, h14⟩ := andK_sound h12
      rw [natK_eq, natK_eq] at h14
      have h11 := Nat.le_of_ble_eq_true h11
      have h13 := Nat.le_of_ble_eq_true h13
      have hp := p_sliceN_a (P := P) hop h9 h10 r2 h5 h7 ⟨h11, h13⟩
      by_cases g : n' = l
      · rw [if_pos g] at hp
        rw [show Nat.beq (false, n', sz).2.1 l = true from by rw [g]; simp] at h14
        exact PS.mk1 (av := .sl _ _ _ _) hp ⟨b, c, r1, rfl, Nat.sub_le_sub_right h13 l⟩ h14
      · rw [if_neg g] at hp
        rw [show Nat.beq (true, n', sz).2.1 l = false from beq_ne g] at h14
        have h14 : natK (Nat.add off (Nat.mul l sz)) (fun o => K (.sl id o (Nat.sub hh l) (Nat.sub n' l))) = true := h14
        rw [natK_eq] at h14
        exact PS.mk1 (av := .sl _ _ _ _) hp ⟨b, c, r1, rfl, Nat.sub_le_sub_right h13 l⟩ h14
    | _ => cases h
  | some y =>
    have h : isNone lo (optK (idxB P t) fun q => andK (Bool.rec (motive := fun _ => Bool) true false q.1) (optK hi fun u => asN (opV u L E) fun h => asN (opV y L E) fun mx => slice3V (opV x L E) h mx K)) = true := h
    obtain ⟨rfl, h2⟩ := isNone_sound h
    obtain ⟨⟨arr, n', sz⟩, h3, h4⟩ := optK_sound h2
    obtain ⟨h5, h6⟩ := andK_sound h4
    have h5 : arr = false := not_rec_t h5
    subst h5
    obtain ⟨el, h9, h10⟩ := idxB_f h3
    obtain ⟨u, rfl, h8⟩ := optK_sound h6
    obtain ⟨k, hh, h11, h12⟩ := asN_sound h8
    obtain ⟨k', mx, h13, h14⟩ := asN_sound h12
    unfold slice3V at h14
    generalize hv : opV x L E = v at h14
    have hr := opR he hv
    cases v with
    | sl id off n cap =>
      obtain ⟨b, c, r1, r2, r3⟩ := hr
      obtain ⟨h15, h16⟩ := andK_sound h14
      obtain ⟨h17, h18⟩ := andK_sound h16
      have h15 := Nat.le_of_ble_eq_true h15
      exact PS.mk1 (av := .sl _ _ _ _) (p_slice3 hop h9 h10 r2 (opI he h11) (opI he h13) ⟨h15, Nat.le_of_ble_eq_true h17⟩) ⟨b, c, r1, rfl, h15⟩ h18
    | sv id off n k =>
      obtain ⟨b, c, r1, r3, r2⟩ := hr
      obtain ⟨h15, h16⟩ := andK_sound h14
      obtain ⟨h17, h18⟩ := andK_sound h16
      have h15 := Nat.le_of_ble_eq_true h15
      have h17 := Nat.le_of_ble_eq_true h17
      exact PS.mk1 (av := .sl _ _ _ _) (p_slice3 hop h9 h10 r2 (opI he h11) (opI he h13) ⟨h15, by omega⟩) ⟨b, c, r1, rfl, h15⟩ h18
    | _ => cases h14
end
end Go.Evl
