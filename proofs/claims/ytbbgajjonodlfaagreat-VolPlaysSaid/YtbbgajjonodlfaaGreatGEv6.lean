/-
  The evaluator's quiet operations, the rest of them. It proves nothing of the program by itself.
-/
import Derived.Test.YtbbgajjonodlfaaGreatGEv5
set_option linter.unusedVariables false
set_option linter.unusedSimpArgs false
namespace Go.Evl
open Go Go.Sl
section
variable {P : Program} {e : Env} {o : Oper} {m : Map} {L E : En} {K : AV → Bool} {x y : Operand}

/-! ### Orders of texts, and all binary operations -/
noncomputable def sLt (l n l' n' : Nat) : Bool := Op.bytesLess (bytesOf l n) (bytesOf l' n')
noncomputable def b_lss (P : Program) (_xT : TypeId) (_cy : Bool) (x y : AV) (K : AV → Bool) : Bool := AV.rec (motive := fun _ => (AV) → (AV → Bool) → Bool) (fun _ _ => false) (fun _ _ _ => false) (fun k a y K => asI y fun k' b => andK (Nat.beq (kc k) (kc k')) (iLt a b fun r => boolK r K)) (fun l n y K => asS y fun l' n' => boolK (sLt l n l' n') K) (fun _ _ => false) (fun _ _ _ _ => false) (fun _ _ => false) (fun _ _ => false) (fun _ _ _ _ _ _ => false) (fun _ _ _ _ _ _ => false) (fun _ _ => false) (fun _ _ _ => false) (fun _ _ _ _ _ => false) (fun _ _ => false) (fun _ _ => false) (fun _ _ _ _ _ => false) (fun _ _ => false) (fun _ _ _ _ _ _ => false) (fun _ _ _ _ => false) (fun _ _ _ _ => false) x y K
noncomputable def b_gtr (P : Program) (_xT : TypeId) (_cy : Bool) (x y : AV) (K : AV → Bool) : Bool := AV.rec (motive := fun _ => (AV) → (AV → Bool) → Bool) (fun _ _ => false) (fun _ _ _ => false) (fun k a y K => asI y fun k' b => andK (Nat.beq (kc k) (kc k')) (iLt b a fun r => boolK r K)) (fun l n y K => asS y fun l' n' => boolK (Bool.rec (motive := fun _ => Bool) (Bool.rec (motive := fun _ => Bool) true false (strEq l n l' n')) false (sLt l n l' n')) K) (fun _ _ => false) (fun _ _ _ _ => false) (fun _ _ => false) (fun _ _ => false) (fun _ _ _ _ _ _ => false) (fun _ _ _ _ _ _ => false) (fun _ _ => false) (fun _ _ _ => false) (fun _ _ _ _ _ => false) (fun _ _ => false) (fun _ _ => false) (fun _ _ _ _ _ => false) (fun _ _ => false) (fun _ _ _ _ _ _ => false) (fun _ _ _ _ => false) (fun _ _ _ _ => false) x y K
noncomputable def b_leq (P : Program) (_xT : TypeId) (_cy : Bool) (x y : AV) (K : AV → Bool) : Bool := AV.rec (motive := fun _ => (AV) → (AV → Bool) → Bool) (fun _ _ => false) (fun _ _ _ => false) (fun k a y K => asI y fun k' b => andK (Nat.beq (kc k) (kc k')) (iLe a b fun r => boolK r K)) (fun l n y K => asS y fun l' n' => boolK (Bool.rec (motive := fun _ => Bool) (strEq l n l' n') true (sLt l n l' n')) K) (fun _ _ => false) (fun _ _ _ _ => false) (fun _ _ => false) (fun _ _ => false) (fun _ _ _ _ _ _ => false) (fun _ _ _ _ _ _ => false) (fun _ _ => false) (fun _ _ _ => false) (fun _ _ _ _ _ => false) (fun _ _ => false) (fun _ _ => false) (fun _ _ _ _ _ => false) (fun _ _ => false) (fun _ _ _ _ _ _ => false) (fun _ _ _ _ => false) (fun _ _ _ _ => false) x y K
noncomputable def b_geq (P : Program) (_xT : TypeId) (_cy : Bool) (x y : AV) (K : AV → Bool) : Bool := AV.rec (motive := fun _ => (AV) → (AV → Bool) → Bool) (fun _ _ => false) (fun _ _ _ => false) (fun k a y K => asI y fun k' b => andK (Nat.beq (kc k) (kc k')) (iLe b a fun r => boolK r K)) (fun l n y K => asS y fun l' n' => boolK (Bool.rec (motive := fun _ => Bool) true false (sLt l n l' n')) K) (fun _ _ => false) (fun _ _ _ _ => false) (fun _ _ => false) (fun _ _ => false) (fun _ _ _ _ _ _ => false) (fun _ _ _ _ _ _ => false) (fun _ _ => false) (fun _ _ _ => false) (fun _ _ _ _ _ => false) (fun _ _ => false) (fun _ _ => false) (fun _ _ _ _ _ => false) (fun _ _ => false) (fun _ _ _ _ _ _ => false) (fun _ _ _ _ => false) (fun _ _ _ _ => false) x y K

theorem p_sleq {xT yT : TypeId} {l r : List UInt8} (hop : o.op = .binOp .leq xT x y yT) (hx : ev e x = strV l) (hy : ev e y = strV r) : PRun P e o (.bool (Op.bytesLess l r || l == r)) := by
  intro w; unfold execOp; rw [hop]; simp only [hx, hy]
  simp only [eqGuard, binOp, Op.stringOp, bytes_toList]
  rfl
theorem p_sgeq {xT yT : TypeId} {l r : List UInt8} (hop : o.op = .binOp .geq xT x y yT) (hx : ev e x = strV l) (hy : ev e y = strV r) : PRun P e o (.bool (!Op.bytesLess l r)) := by
  intro w; unfold execOp; rw [hop]; simp only [hx, hy]
  simp only [eqGuard, binOp, Op.stringOp, bytes_toList]
  rfl
theorem beq_dec (l r : List UInt8) : (l == r) = decide (l = r) := by by_cases h : l = r <;> simp [h]
theorem or_rec (a b : Bool) : Bool.rec (motive := fun _ => Bool) b true a = (a || b) := by cases a <;> rfl
theorem nor_rec (a b : Bool) : Bool.rec (motive := fun _ => Bool) (!b) false a = !(a || b) := by cases a <;> rfl
theorem b_lss_sound {xT yT : TypeId} {cy : Bool} (hop : o.op = .binOp .lss xT x y yT) (he : EnvRel m L E e) (h : b_lss P xT cy (opV x L E) (opV y L E) K = true) : PS P e o m K := by
  unfold b_lss at h
  generalize hv : opV x L E = v at h
  cases v with
  | i k a =>
    obtain ⟨k', b, h1, h2⟩ := asI_sound (v := opV y L E) h
    obtain ⟨h3, h4⟩ := andK_sound h2
    have := kc_inj h3
    subst this
    have h5 := iLt_eq _ _ _ h4
    rw [boolK_eq] at h5
    exact eqDone (p_lss hop (opI he hv) (opI he h1)) h5
  | s l n =>
    obtain ⟨l', n', h1, h2⟩ := asS_sound (v := opV y L E) h
    rw [boolK_eq] at h2
    exact eqDone (p_slss hop (opS he hv) (opS he h1)) h2
  | _ => cases h
theorem b_gtr_sound {xT yT : TypeId} {cy : Bool} (hop : o.op = .binOp .gtr xT x y yT) (he : EnvRel m L E e) (h : b_gtr P xT cy (opV x L E) (opV y L E) K = true) : PS P e o m K := by
  unfold b_gtr at h
  generalize hv : opV x L E = v at h
  cases v with
  | i k a =>
    obtain ⟨k', b, h1, h2⟩ := asI_sound (v := opV y L E) h
    obtain ⟨h3, h4⟩ := andK_sound h2
    have := kc_inj h3
    subst this
    have h5 := iLt_eq _ _ _ h4
    rw [boolK_eq] at h5
    exact eqDone (p_gtr hop (opI he hv) (opI he h1)) h5
  | s l n =>
    obtain ⟨l', n', h1, h2⟩ := asS_sound (v := opV y L E) h
    rw [boolK_eq, not_rec, nor_rec, strEq_eq, ← beq_dec] at h2
    exact eqDone (p_sgtr hop (opS he hv) (opS he h1)) h2
  | _ => cases h
theorem b_leq_sound {xT yT : TypeId} {cy : Bool} (hop : o.op = .binOp .leq xT x y yT) (he : EnvRel m L E e) (h : b_leq P xT cy (opV x L E) (opV y L E) K = true) : PS P e o m K := by
  unfold b_leq at h
  generalize hv : opV x L E = v at h
  cases v with
  | i k a =>
    obtain ⟨k', b, h1, h2⟩ := asI_sound (v := opV y L E) h
    obtain ⟨h3, h4⟩ := andK_sound h2
    have := kc_inj h3
    subst this
    have h5 := iLe_eq _ _ _ h4
    rw [boolK_eq] at h5
    exact eqDone (p_leq hop (opI he hv) (opI he h1)) h5
  | s l n =>
    obtain ⟨l', n', h1, h2⟩ := asS_sound (v := opV y L E) h
    rw [boolK_eq, or_rec, strEq_eq, ← beq_dec] at h2
    exact eqDone (p_sleq hop (opS he hv) (opS he h1)) h2
  | _ => cases h
theorem b_geq_sound {xT yT : TypeId} {cy : Bool} (hop : o.op = .binOp .geq xT x y yT) (he : EnvRel m L E e) (h : b_geq P xT cy (opV x L E) (opV y L E) K = true) : PS P e o m K := by
  unfold b_geq at h
  generalize hv : opV x L E = v at h
  cases v with
  | i k a =>
    obtain ⟨k', b, h1, h2⟩ := asI_sound (v := opV y L E) h
    obtain ⟨h3, h4⟩ := andK_sound h2
    have := kc_inj h3
    subst this
    have h5 := iLe_eq _ _ _ h4
    rw [boolK_eq] at h5
    exact eqDone (p_geq hop (opI he hv) (opI he h1)) h5
  | s l n =>
    obtain ⟨l', n', h1, h2⟩ := asS_sound (v := opV y L E) h
    rw [boolK_eq, not_rec] at h2
    exact eqDone (p_sgeq hop (opS he hv) (opS he h1)) h2
  | _ => cases h
/-- The first number's bits that are not the second's. -/
def anF (m n : Nat) : Nat := Nat.xor m (Nat.land m n)
theorem anF_eq (w : Nat) (x y : BitVec w) : (x &&& ~~~ y).toNat = anF x.toNat y.toNat := by
  have e : x &&& ~~~ y = x ^^^ (x &&& y) := by
    apply BitVec.eq_of_getLsbD_eq
    intro i hi
    simp only [BitVec.getLsbD_and, BitVec.getLsbD_not, BitVec.getLsbD_xor, hi, decide_true, Bool.true_and]
    cases x.getLsbD i <;> cases y.getLsbD i <;> rfl
  rw [e, BitVec.toNat_xor, BitVec.toNat_and]
  rfl
theorem p_andNot {k : IntKind} {a b : Int} {t t' : TypeId} (hop : o.op = .binOp .andNot t x y t') (hx : ev e x = .int k a) (hy : ev e y = .int k b) : PRun P e o (.int k (k.wrap (BitVec.ofInt k.bits a &&& ~~~ BitVec.ofInt k.bits b).toNat)) := fun _ => run_bin hop hx hy (by decide) rfl
noncomputable def binV (op : BinOp) : Program → TypeId → Bool → AV → AV → (AV → Bool) → Bool := BinOp.rec (motive := fun _ => (Program) → (TypeId) → (Bool) → (AV) → (AV) → (AV → Bool) → Bool) bAdd (bInt iSub) (bInt iMul) (bInt iQuo) (bInt iRem) (bInt (iBit Nat.land)) (bInt (iBit Nat.lor)) (bInt (iBit Nat.xor)) (bShift iShl) (bShift iShr) (bInt (iBit anF)) bEq bNe b_lss b_leq b_gtr b_geq op
noncomputable def pBin (op : BinOp) (xT : TypeId) (x y : Operand) (yT : TypeId) (P : Program) (L E : En) (K : AV → Bool) : Bool := binV op P xT (isCo y) (opV x L E) (opV y L E) K
theorem pBin_sound {op : BinOp} {xT yT : TypeId} (hop : o.op = .binOp op xT x y yT) (he : EnvRel m L E e) (h : pBin op xT x y yT P L E K = true) : PS P e o m K := by
  unfold pBin binV at h
  cases op with
  | add => exact bAdd_sound hop he h
  | eql => exact bEq_sound hop he h
  | neq => exact bNe_sound hop he h
  | lss => exact b_lss_sound hop he h
  | leq => exact b_leq_sound hop he h
  | gtr => exact b_gtr_sound hop he h
  | geq => exact b_geq_sound hop he h
  | shl =>
    obtain ⟨k, a, h1, h2⟩ := asI_sound (v := opV x L E) h
    obtain ⟨k', b, h3, h4⟩ := asI_sound (v := opV y L E) h2
    obtain ⟨h5, h6⟩ := iShl_eq _ _ _ _ h4
    exact PS.mk1 (av := .i _ _) (p_shl hop (opI he h1) (opI he h3) h5) rfl h6
  | shr =>
    obtain ⟨k, a, h1, h2⟩ := asI_sound (v := opV x L E) h
    obtain ⟨k', b, h3, h4⟩ := asI_sound (v := opV y L E) h2
    obtain ⟨h5, h6⟩ := iShr_eq _ _ _ _ h4
    exact PS.mk1 (av := .i _ _) (p_shr hop (opI he h1) (opI he h3) h5) rfl h6
  | andNot =>
    obtain ⟨k, a, b, h1, h2, h3⟩ := ints_sound (x := opV x L E) (y := opV y L E) h
    exact PS.mk1 (av := .i _ _) (p_andNot hop (opI he h1) (opI he h2)) rfl (iBit_eq (G := fun _ x y => x &&& ~~~ y) anF_eq _ _ _ _ h3)
  | sub =>
    obtain ⟨k, a, b, h1, h2, h3⟩ := ints_sound (x := opV x L E) (y := opV y L E) h
    exact PS.mk1 (av := .i _ _) (p_sub_w hop (opI he h1) (opI he h2)) rfl (iSub_eq _ _ _ _ h3)
  | mul =>
    obtain ⟨k, a, b, h1, h2, h3⟩ := ints_sound (x := opV x L E) (y := opV y L E) h
    exact PS.mk1 (av := .i _ _) (p_mul_w hop (opI he h1) (opI he h2)) rfl (iMul_eq _ _ _ _ h3)
  | quo =>
    obtain ⟨k, a, b, h1, h2, h3⟩ := ints_sound (x := opV x L E) (y := opV y L E) h
    obtain ⟨h4, h5⟩ := iQuo_eq _ _ _ _ h3
    exact PS.mk1 (av := .i _ _) (p_quo_w hop (opI he h1) (opI he h2) h4) rfl h5
  | rem =>
    obtain ⟨k, a, b, h1, h2, h3⟩ := ints_sound (x := opV x L E) (y := opV y L E) h
    obtain ⟨h4, h5⟩ := iRem_eq _ _ _ _ h3
    exact PS.mk1 (av := .i _ _) (p_rem_w hop (opI he h1) (opI he h2) h4) rfl h5
  | and =>
    obtain ⟨k, a, b, h1, h2, h3⟩ := ints_sound (x := opV x L E) (y := opV y L E) h
    exact bAnd_sound hop (opI he h1) (opI he h2) h3
  | or =>
    obtain ⟨k, a, b, h1, h2, h3⟩ := ints_sound (x := opV x L E) (y := opV y L E) h
    exact bOr_sound hop (opI he h1) (opI he h2) h3
  | xor =>
    obtain ⟨k, a, b, h1, h2, h3⟩ := ints_sound (x := opV x L E) (y := opV y L E) h
    exact bXor_sound hop (opI he h1) (opI he h2) h3

/-! ### One operand -/
noncomputable def unV (op : UnOp) : AV → (AV → Bool) → Bool := UnOp.rec (motive := fun _ => AV → (AV → Bool) → Bool)
  (fun x K => asI x fun k a => iSub k 0 a K) (fun x K => asI x fun k a => Bool.rec (motive := fun _ => Bool) (iBit Nat.xor k k.max a K) false (sgn k)) (fun x K => asB x fun b => boolK (Bool.rec (motive := fun _ => Bool) true false b) K) (fun _ _ => false) op
theorem sgn_eq (k : IntKind) : sgn k = k.signed := by cases k <;> rfl
theorem unV_sound {op : UnOp} {t : TypeId} (hop : o.op = .unOp op t x) (he : EnvRel m L E e) (h : unV op (opV x L E) K = true) : PS P e o m K := by
  cases op with
  | neg =>
    obtain ⟨k, a, h1, h2⟩ := asI_sound (v := opV x L E) h
    exact PS.mk1 (av := .i _ _) (p_neg hop (opI he h1)) rfl (iSub_eq _ _ _ _ h2)
  | xor =>
    obtain ⟨k, a, h1, h2⟩ := asI_sound (v := opV x L E) h
    cases hs : sgn k with
    | true => rw [hs] at h2; cases h2
    | false =>
      rw [hs] at h2
      have h3 := iBit_eq (G := fun _ x y => x ^^^ y) (fun _ x y => BitVec.toNat_xor x y) k _ _ K h2
      refine PS.mk1 (av := .i _ _) (fun w => ?_) rfl h3
      unfold execOp; rw [hop]; simp only [opI he h1, Op.unary, Op.intBits]
      rw [sgn_eq] at hs
      simp [hs]
  | not =>
    obtain ⟨b, h1, h2⟩ := asB_sound (v := opV x L E) h
    rw [boolK_eq, not_rec] at h2
    exact eqDone (p_not hop (opB he h1)) h2
  | plus => cases h
noncomputable def pUn (op : UnOp) (t : TypeId) (x : Operand) (P : Program) (L E : En) (K : AV → Bool) : Bool := unV op (opV x L E) K

/-! ### Conversions -/
def intB (P : Program) (t : TypeId) : Option IntKind := match P.underlying t with | some (.int k) => some k | _ => none
theorem intB_sound {P : Program} {t : TypeId} {k : IntKind} (h : intB P t = some k) : P.underlying t = some (.int k) := by
  unfold intB at h; split at h
  · cases h; assumption
  · cases h
/-- A letter below 128 as a text. -/
noncomputable def asciiK (n : Int) (K : Nat → Bool) : Bool := Int.rec (motive := fun _ => Bool) (fun r => andK (Nat.blt r 128) (K r)) (fun _ => false) n
theorem asciiK_sound {n : Int} {K : Nat → Bool} (h : asciiK n K = true) : ∃ r : Nat, n = (r : Int) ∧ r < 128 ∧ K r = true := by
  cases n with
  | ofNat r => obtain ⟨h1, h2⟩ := andK_sound (show andK (Nat.blt r 128) (K r) = true from h); exact ⟨r, rfl, by simpa using h1, h2⟩
  | negSucc r => cases h
theorem p_conv_is {src dst : TypeId} {x : Operand} {ks k : IntKind} {r : Nat} (hop : o.op = .convert src dst x) (hs : P.underlying src = some (.int ks)) (hd : P.underlying dst = some .string) (hx : ev e x = .int k (r : Int)) (hr : r < 128) : PRun P e o (strV (bytesOf 1 r)) := by
  intro w; unfold execOp; rw [hop]; simp only [hx]
  simp only [convert, Sem.run_bind, run_underlying' hs, run_underlying' hd, Result.andThen_ok, Conv.intToString]
  have h1 : Utf8.valid (r : Int) = true := by simp [Utf8.valid]; omega
  have h2 : Utf8.encode (r : Int) = ⟨(bytesOf 1 r).toArray⟩ := by
    unfold Utf8.encode
    rw [h1]
    simp only [if_true, Int.toNat_natCast]
    rw [if_pos (by omega)]
    rfl
  rw [h2]
  rfl
noncomputable def convV (x : AV) (P : Program) (s d : TypeId) (K : AV → Bool) : Bool := AV.rec (motive := fun _ => (Program) → (TypeId) → (TypeId) → (AV → Bool) → Bool) (fun _ _ _ _ => false) (fun _ _ _ _ _ => false) (fun k n P s d K => Bool.rec (motive := fun _ => Bool) (optK (intB P s) fun ks => optK (intB P d) fun kd => andK (Nat.beq (kc k) (kc ks)) (retI kd n K)) (optK (intB P s) fun _ => asciiK n fun r => K (.s 1 r)) (Nat.beq (tyc P d) 7)) (fun l n P s d K => andK (Nat.beq (tyc P s) 7) (andK (Nat.beq (tyc P d) 7) (K (.s l n)))) (fun _ _ _ _ => false) (fun _ _ _ _ _ _ => false) (fun _ _ _ _ => false) (fun _ _ _ _ => false) (fun _ _ _ _ _ _ _ _ => false) (fun _ _ _ _ _ _ _ _ => false) (fun _ _ _ _ => false) (fun _ _ _ _ _ => false) (fun _ _ _ _ _ _ _ => false) (fun _ _ _ _ => false) (fun _ _ _ _ => false) (fun _ _ _ _ _ _ _ => false) (fun _ _ _ _ => false) (fun _ _ _ _ _ _ _ _ => false) (fun _ _ _ _ _ _ => false) (fun _ _ _ _ _ _ => false) x P s d K
noncomputable def pConv (s d : TypeId) (x : Operand) (P : Program) (L E : En) (K : AV → Bool) : Bool := convV (opV x L E) P s d K
theorem pConv_sound {s d : TypeId} (hop : o.op = .convert s d x) (he : EnvRel m L E e) (h : pConv s d x P L E K = true) : PS P e o m K := by
  unfold pConv convV at h
  generalize hv : opV x L E = v at h
  cases v with
  | i k n =>
    have h : Bool.rec (motive := fun _ => Bool) (optK (intB P s) fun ks => optK (intB P d) fun kd => andK (Nat.beq (kc k) (kc ks)) (retI kd n K)) (optK (intB P s) fun _ => asciiK n fun r => K (.s 1 r)) (Nat.beq (tyc P d) 7) = true := h
    cases hd : Nat.beq (tyc P d) 7 with
    | false =>
      rw [hd] at h
      obtain ⟨ks, h1, h2⟩ := optK_sound h
      obtain ⟨kd, h3, h4⟩ := optK_sound h2
      obtain ⟨h5, h6⟩ := andK_sound h4
      have := kc_inj h5
      subst this
      rw [retI_eq] at h6
      exact PS.mk1 (av := .i _ _) (p_conv hop (intB_sound h1) (intB_sound h3) (opI he hv)) rfl h6
    | true =>
      rw [hd] at h
      obtain ⟨ks, h1, h2⟩ := optK_sound h
      obtain ⟨r, rfl, h3, h4⟩ := asciiK_sound h2
      exact PS.mk1 (av := .s 1 r) (p_conv_is hop (intB_sound h1) (tyc7 hd) (opI he hv) h3) rfl h4
  | s l n =>
    obtain ⟨h1, h2⟩ := andK_sound h
    obtain ⟨h3, h4⟩ := andK_sound h2
    exact PS.mk1 (av := .s _ _) (p_conv_ss hop (tyc7 h1) (tyc7 h3) (opS he hv)) rfl h4
  | _ => cases h
noncomputable def pExtract (x : Operand) (i : Nat) (P : Program) (L E : En) (K : AV → Bool) : Bool := asTup (opV x L E) fun l => nthK i l fun v => forceK v K
theorem pExtract_sound {i : Nat} (hop : o.op = .extract x i) (he : EnvRel m L E e) (h : pExtract x i P L E K = true) : PS P e o m K := by
  obtain ⟨l, h1, h2⟩ := asTup_sound h
  obtain ⟨vs, r1, r2⟩ := (opR he h1 : rel m (.tup l) _)
  obtain ⟨v, u, h3, h4, h5⟩ := nthK_sound h2 r1
  rw [forceK_eq] at h5
  exact PS.mk1 (p_extract hop r2 (by rw [nth_eq]; exact h3)) h4 h5

/-! ### Structs, addresses -/
noncomputable def pFieldAddr (t : TypeId) (x : Operand) (f : Nat) (P : Program) (L E : En) (K : AV → Bool) : Bool := asP (opV x L E) fun id off => fldK P t f fun o _ => natK (Nat.add off o) fun o => K (.p id o)
theorem pFieldAddr_sound {t : TypeId} {f : Nat} (hop : o.op = .fieldAddr t x f) (he : EnvRel m L E e) (h : pFieldAddr t x f P L E K = true) : PS P e o m K := by
  obtain ⟨id, off, h1, h2⟩ := asP_sound h
  obtain ⟨fo, ft, h3, h4⟩ := fldK_sound h2
  rw [natK_eq] at h4
  obtain ⟨b, c, r1, r2⟩ := (opR he h1 : rel m (.p id off) _)
  exact PS.mk1 (av := .p _ _) (p_fieldAddr hop h3 r2) ⟨b, c, r1, rfl⟩ h4
theorem p_fieldAgg {t ft : TypeId} {f fo sz : Nat} {cs : List Value} (hop : o.op = .field t x f) (hf : FieldAt P t f fo ft) (hs : IsAgg P ft) (hz : TySize P ft sz) (hx : ev e x = .agg cs.toArray) : PRun P e o (.agg ((cs.drop fo).take sz).toArray) := by
  intro w; unfold execOp; rw [hop]; simp only [hx]
  obtain ⟨fs, fd, i, h1, h2, h3, h4, h5, h6⟩ := hf
  simp only [Instr.field, Go.asAgg, Sem.run_bind, run_underlying' h1, Result.andThen_ok, h2, Sem.run_pure, part]
  rw [h4, run_isAgg_yes hs]
  simp only [Result.andThen_ok, if_true, Sem.run_bind, run_sizeOf' hz, Sem.run_pure]
  congr 3
  apply Array.ext'
  simp [h3, List.extract_eq_take_drop, List.drop_take]
noncomputable def pField (t : TypeId) (x : Operand) (f : Nat) (P : Program) (L E : En) (K : AV → Bool) : Bool := asAgg (opV x L E) fun l => fldK P t f fun o ft => optK (isAggB P ft) fun ag =>
  Bool.rec (motive := fun _ => Bool) (nthK o l fun v => forceK v K) (optK (szB P ft) fun sz => dropK o l fun l => takeK sz l fun l => K (.agg l)) ag
theorem pField_sound {t : TypeId} {f : Nat} (hop : o.op = .field t x f) (he : EnvRel m L E e) (h : pField t x f P L E K = true) : PS P e o m K := by
  obtain ⟨l, h1, h2⟩ := asAgg_sound h
  obtain ⟨vs, r1, r2⟩ := (opR he h1 : rel m (.agg l) _)
  obtain ⟨fo, ft, h3, h4⟩ := fldK_sound h2
  obtain ⟨ag, h5, h6⟩ := optK_sound h4
  cases ag with
  | false =>
    obtain ⟨v, u, h7, h8, h9⟩ := nthK_sound (m := m) (vs := vs) h6 r1
    rw [forceK_eq] at h9
    exact PS.mk1 (p_field1 hop h3 (isAggB_f h5) r2 (by rw [nth_eq]; exact h7)) h8 h9
  | true =>
    obtain ⟨sz, h7, h8⟩ := optK_sound h6
    obtain ⟨h9, l1, h10, h11⟩ := dropK_sound h8 r1
    obtain ⟨h12, l2, h13, h14⟩ := takeK_sound h11 h10
    exact PS.mk1 (av := .agg l2) (p_fieldAgg hop h3 (isAggB_t h5) (szB_s h7) r2) ⟨_, h13, rfl⟩ h14
/-- (array?, its length, the size of an element) -/
def idxB (P : Program) (t : TypeId) : Option (Bool × Nat × Nat) := match P.underlying t with
  | some (.slice el) => (P.info? el).map fun i => (false, 0, i.size)
  | some (.array n el) => (P.info? el).map fun i => (true, n, i.size)
  | _ => none
theorem idxB_f {P : Program} {t : TypeId} {n sz : Nat} (h : idxB P t = some (false, n, sz)) : ∃ el, P.underlying t = some (.slice el) ∧ TySize P el sz := by
  unfold idxB at h
  split at h
  · rename_i el hu
    cases hi : P.info? el with
    | none => rw [hi] at h; cases h
    | some i => rw [hi] at h; simp only [Option.map_some, Option.some.injEq, Prod.mk.injEq] at h; exact ⟨el, hu, i, hi, h.2.2⟩
  · rename_i el hu
    cases hi : P.info? el with
    | none => rw [hi] at h; cases h
    | some i => rw [hi] at h; simp only [Option.map_some, Option.some.injEq, Prod.mk.injEq] at h; exact absurd h.1 (by simp)
  · cases h
theorem idxB_t {P : Program} {t : TypeId} {n sz : Nat} (h : idxB P t = some (true, n, sz)) : ∃ el, P.underlying t = some (.array n el) ∧ TySize P el sz := by
  unfold idxB at h
  split at h
  · rename_i el hu
    cases hi : P.info? el with
    | none => rw [hi] at h; cases h
    | some i => rw [hi] at h; simp only [Option.map_some, Option.some.injEq, Prod.mk.injEq] at h; exact absurd h.1 (by simp)
  · rename_i n' el hu
    cases hi : P.info? el with
    | none => rw [hi] at h; cases h
    | some i =>
      rw [hi] at h
      simp only [Option.map_some, Option.some.injEq, Prod.mk.injEq] at h
      obtain ⟨-, h1, h2⟩ := h
      subst h1
      exact ⟨el, hu, i, hi, h2⟩
  · cases h
noncomputable def asSl (v : AV) (K : Nat → Nat → Nat → Bool) : Bool := AV.rec (motive := fun _ => (Nat → Nat → Nat → Bool) → Bool) (fun _ => false) (fun _ _ => false) (fun _ _ _ => false) (fun _ _ _ => false) (fun _ => false) (fun _ _ _ => false) (fun _ => false) (fun _ => false) (fun id off n c K => K id off n) (fun id off n k K => K id off n) (fun _ => false) (fun _ _ => false) (fun _ _ _ _ => false) (fun _ => false) (fun _ => false) (fun _ _ _ _ => false) (fun _ => false) (fun _ _ _ _ _ => false) (fun _ _ _ => false) (fun _ _ _ => false) v K
theorem asSl_sound {v : AV} {K : Nat → Nat → Nat → Bool} {u : Value} (h : asSl v K = true) (hr : rel m v u) : ∃ id off n b c cap, m id = some (b, c) ∧ u = slc b off n cap ∧ K id off n = true := by
  cases v with
  | sl id off n cap => obtain ⟨b, c, h1, h2, _⟩ := hr; exact ⟨id, off, n, b, c, _, h1, h2, h⟩
  | sv id off n k => obtain ⟨b, c, h1, _, h2⟩ := hr; exact ⟨id, off, n, b, c, _, h1, h2, h⟩
  | _ => cases h
noncomputable def pIndexAddr (t : TypeId) (x i : Operand) (P : Program) (L E : En) (K : AV → Bool) : Bool := optK (idxB P t) fun q => asN (opV i L E) fun i =>
  Bool.rec (motive := fun _ => Bool) (asSl (opV x L E) fun id off n => andK (Nat.blt i n) (natK (Nat.add off (Nat.mul i q.2.2)) fun o => K (.p id o)))
    (asP (opV x L E) fun id off => andK (Nat.blt i q.2.1) (natK (Nat.add off (Nat.mul i q.2.2)) fun o => K (.p id o))) q.1
theorem pIndexAddr_sound {t : TypeId} {i : Operand} (hop : o.op = .indexAddr t x i) (he : EnvRel m L E e) (h : pIndexAddr t x i P L E K = true) : PS P e o m K := by
  obtain ⟨⟨arr, n, sz⟩, h1, h2⟩ := optK_sound h
  obtain ⟨k, j, h3, h4⟩ := asN_sound h2
  have hi := opI he h3
  cases arr with
  | false =>
    obtain ⟨el, h5, h6⟩ := idxB_f h1
    obtain ⟨id, off, n, b, c, cap, h7, h8, h9⟩ := asSl_sound (m := m) h4 (opV_rel he x)
    obtain ⟨h10, h11⟩ := andK_sound h9
    rw [natK_eq] at h11
    have := blt_lt h10
    have h12 := p_indexAddr (P := P) hop h5 h6 h8 hi ⟨by simp, by simp; omega⟩
    exact PS.mk1 (av := .p _ _) h12 ⟨b, c, h7, rfl⟩ h11
  | true =>
    obtain ⟨el, h5, h6⟩ := idxB_t h1
    obtain ⟨id, off, h7, h8⟩ := asP_sound (v := opV x L E) h4
    obtain ⟨b, c, r1, r2⟩ := (opR he h7 : rel m (.p id off) _)
    obtain ⟨h10, h11⟩ := andK_sound h8
    rw [natK_eq] at h11
    have := blt_lt h10
    have h12 := p_indexAddr_a (P := P) hop h5 h6 r2 hi ⟨by simp, by simp; omega⟩
    exact PS.mk1 (av := .p _ _) h12 ⟨b, c, r1, rfl⟩ h11
theorem p_index_arr {t el : TypeId} {i : Operand} {n : Nat} {k : IntKind} {j : Nat} {cs : List Value} {v : Value} (hop : o.op = .index t x i) (ht : P.underlying t = some (.array n el)) (hz : TySize P el 1) (hs : Scalar P el)
    (hx : ev e x = .agg cs.toArray) (hi : ev e i = .int k (Int.ofNat j)) (hj : j < n) (hv : cs[j]? = some v) : PRun P e o v := by
  intro w; unfold execOp; rw [hop]; simp only [hx, hi]
  simp only [Instr.index, asIntOf, Sem.run_bind, Sem.run_pure, Result.andThen_ok, run_underlying' ht]
  rw [if_pos ⟨by simp, by simp; omega⟩]
  simp only [Sem.run_bind, run_sizeOf' hz, Result.andThen_ok, part, run_isAgg_no hs, Bool.false_eq_true, if_false, Int.ofNat_eq_natCast, Int.toNat_natCast, Nat.mul_one]
  simp [hv]
theorem p_index_agg {t el : TypeId} {i : Operand} {n sz : Nat} {k : IntKind} {j : Nat} {cs : List Value} (hop : o.op = .index t x i) (ht : P.underlying t = some (.array n el)) (hz : TySize P el sz) (hs : IsAgg P el)
    (hx : ev e x = .agg cs.toArray) (hi : ev e i = .int k (Int.ofNat j)) (hj : j < n) : PRun P e o (.agg ((cs.drop (j * sz)).take sz).toArray) := by
  intro w; unfold execOp; rw [hop]; simp only [hx, hi]
  simp only [Instr.index, asIntOf, Sem.run_bind, Sem.run_pure, Result.andThen_ok, run_underlying' ht]
  rw [if_pos ⟨by simp, by simp; omega⟩]
  simp only [Sem.run_bind, run_sizeOf' hz, Result.andThen_ok, part, run_isAgg_yes hs, if_true, Sem.run_pure, Int.ofNat_eq_natCast, Int.toNat_natCast]
  congr 3
  apply Array.ext'
  simp [List.extract_eq_take_drop, List.drop_take]
def elB (P : Program) (t : TypeId) : Option (Nat × TypeId) := match P.underlying t with
  | some (.array n el) => some (n, el)
  | _ => none
theorem elB_sound {P : Program} {t : TypeId} {n el : Nat} (h : elB P t = some (n, el)) : P.underlying t = some (.array n el) := by
  unfold elB at h; split at h
  · cases h; assumption
  · cases h
noncomputable def idxV (x : AV) (P : Program) (t i : Nat) (K : AV → Bool) : Bool := AV.rec (motive := fun _ => (Program) → (Nat) → (Nat) → (AV → Bool) → Bool) (fun _ _ _ _ => false) (fun _ _ _ _ _ => false) (fun _ _ _ _ _ _ => false) (fun l n P t i K => andK (Nat.beq (tyc P t) 7) (andK (Nat.blt i l) (natK (Nat.mod (Nat.div n (Nat.pow 256 i)) 256) fun b => K (.i .u8 (Int.ofNat b))))) (fun _ _ _ _ => false) (fun _ _ _ _ _ _ => false) (fun _ _ _ _ => false) (fun _ _ _ _ => false) (fun _ _ _ _ _ _ _ _ => false) (fun _ _ _ _ _ _ _ _ => false) (fun _ _ _ _ => false) (fun _ _ _ _ _ => false) (fun _ _ _ _ _ _ _ => false) (fun _ _ _ _ => false) (fun _ _ _ _ => false) (fun _ _ _ _ _ _ _ => false) (fun _ _ _ _ => false) (fun _ _ _ _ _ _ _ _ => false) (fun l _ P t i K => optK (elB P t) fun q => andK (Nat.blt i q.1) (optK (isAggB P q.2) fun ag => optK (szB P q.2) fun sz => Bool.rec (motive := fun _ => Bool) (andK (Nat.beq sz 1) (nthK i l fun v => forceK v K)) (dropK (Nat.mul i sz) l fun l => takeK sz l fun l => K (.agg l)) ag)) (fun _ _ _ _ _ _ => false) x P t i K
noncomputable def pIndex (t : TypeId) (x i : Operand) (P : Program) (L E : En) (K : AV → Bool) : Bool := asN (opV i L E) fun i => idxV (opV x L E) P t i K
theorem pIndex_sound {t : TypeId} {i : Operand} (hop : o.op = .index t x i) (he : EnvRel m L E e) (h : pIndex t x i P L E K = true) : PS P e o m K := by
  obtain ⟨k, j, h3, h4⟩ := asN_sound h
  have hi := opI he h3
  unfold idxV at h4
  generalize hv : opV x L E = v at h4
  cases v with
  | s l n =>
    obtain ⟨h5, h6⟩ := andK_sound h4
    obtain ⟨h7, h8⟩ := andK_sound h6
    rw [natK_eq] at h8
    refine PS.mk1 (av := .i _ _) (p_index_s hop (tyc7 h5) (opS he hv) hi (by simp) (bytesOf_get l n j (blt_lt h7))) ?_ h8
    show u8V _ = Value.int _ _
    simp only [u8V, UInt8.toNat_ofNat']
    rfl
  | agg l =>
    obtain ⟨vs, r1, r2⟩ := (opR he hv : rel m (.agg l) _)
    obtain ⟨⟨n, el⟩, h5, h6⟩ := optK_sound h4
    obtain ⟨h7, h8⟩ := andK_sound h6
    obtain ⟨ag, h9, h10⟩ := optK_sound h8
    obtain ⟨sz, h11, h12⟩ := optK_sound h10
    cases ag with
    | false =>
      obtain ⟨h13, h14⟩ := andK_sound h12
      have := Nat.eq_of_beq_eq_true h13
      subst this
      obtain ⟨v, u, h15, h16, h17⟩ := nthK_sound h14 r1
      rw [forceK_eq] at h17
      exact PS.mk1 (p_index_arr hop (elB_sound h5) (szB_s h11) (isAggB_f h9) r2 hi (blt_lt h7) h15) h16 h17
    | true =>
      obtain ⟨_, l1, h13, h14⟩ := dropK_sound (i := Nat.mul j sz) h12 r1
      obtain ⟨_, l2, h15, h16⟩ := takeK_sound h14 h13
      refine PS.mk1 (av := .agg l2) (p_index_agg hop (elB_sound h5) (szB_s h11) (isAggB_t h9) r2 hi (blt_lt h7)) ⟨_, h15, rfl⟩ h16
  | _ => cases h4
end
end Go.Evl
namespace Go.Evl
open Go Go.Sl
section
variable {P : Program} {e : Env} {o : Oper} {m : Map} {L E : En} {K : AV → Bool} {x y : Operand}

/-! ### Slices -/
/-- A bound that is written, or what it is where none is. -/
noncomputable def boundK (b : Option Operand) (d : Nat) (L E : En) (K : Nat → Bool) : Bool := Option.rec (motive := fun _ => Nat → En → En → (Nat → Bool) → Bool) (fun d _ _ K => K d) (fun x _ L E K => asN (opV x L E) K) b d L E K
theorem boundK_lo {b : Option Operand} {K : Nat → Bool} (he : EnvRel m L E e) (h : boundK b 0 L E K = true) : ∃ l : Nat, loOf e b = some (l : Int) ∧ K l = true := by
  cases b with
  | none => exact ⟨0, rfl, h⟩
  | some x =>
    obtain ⟨k, n, h1, h2⟩ := asN_sound (v := opV x L E) h
    exact ⟨n, by simp [loOf, opI he h1], h2⟩
theorem boundK_hi {b : Option Operand} {n : Nat} {K : Nat → Bool} (he : EnvRel m L E e) (h : boundK b n L E K = true) : ∃ l : Nat, hiOf e n b = some (l : Int) ∧ K l = true := by
  cases b with
  | none => exact ⟨n, rfl, h⟩
  | some x =>
    obtain ⟨k, n', h1, h2⟩ := asN_sound (v := opV x L E) h
    exact ⟨n', by simp [hiOf, opI he h1], h2⟩
/-- x[l:h], at a row that is known to its end. -/
noncomputable def cutSl (id off cap sz l h : Nat) (K : AV → Bool) : Bool :=
  andK (Nat.ble l h) (andK (Nat.ble h cap) (natK (Nat.sub h l) fun n => natK (Nat.sub cap l) fun c => Bool.rec (motive := fun _ => Bool) (natK (Nat.add off (Nat.mul l sz)) fun o => K (.sl id o n c)) (K (.sl id off n c)) (Nat.beq cap l)))
/-- x[l:h], at a row that has grown. -/
noncomputable def cutSv (id off n k sz l h : Nat) (K : AV → Bool) : Bool :=
  andK (Nat.ble l h) (andK (Nat.ble h n) (Bool.rec (motive := fun _ => Bool) (Bool.rec (motive := fun _ => Bool) (K .se) (K (.sv id off 0 k)) (Nat.beq l 0))
    (natK (Nat.add off (Nat.mul l sz)) fun o => natK (Nat.sub h l) fun n => natK (Nat.add k l) fun k => K (.sv id o n k)) (Nat.blt l n)))
noncomputable def cutStr (len n l h : Nat) (K : AV → Bool) : Bool := andK (Nat.ble l h) (andK (Nat.ble h len) (natK (Nat.sub h l) fun k => natK (Nat.mod (Nat.div n (Nat.pow 256 l)) (Nat.pow 256 k)) fun r => K (.s k r)))
noncomputable def sliceV (x : AV) (P : Program) (t : TypeId) (lo hi : Option Operand) (L E : En) (K : AV → Bool) : Bool := AV.rec (motive := fun _ => (Program) → (TypeId) → (Option Operand) → (Option Operand) → (En) → (En) → (AV → Bool) → Bool) (fun _ _ _ _ _ _ _ => false) (fun _ _ _ _ _ _ _ _ => false) (fun _ _ _ _ _ _ _ _ _ => false) (fun len n P t lo hi L E K => andK (Nat.beq (tyc P t) 7) (boundK lo 0 L E fun l => boundK hi len L E fun h => cutStr len n l h K)) (fun _ _ _ _ _ _ _ => false) (fun id off P t lo hi L E K => optK (idxB P t) fun q => andK q.1 (boundK lo 0 L E fun l => boundK hi q.2.1 L E fun h => cutSl id off q.2.1 q.2.2 l h K)) (fun  P t lo hi L E K => optK (idxB P t) fun q => andK (Bool.rec (motive := fun _ => Bool) true false q.1) (boundK lo 0 L E fun l => boundK hi 0 L E fun h => andK (Nat.beq l 0) (andK (Nat.beq h 0) (K .sn)))) (fun  P t lo hi L E K => optK (idxB P t) fun q => andK (Bool.rec (motive := fun _ => Bool) true false q.1) (boundK lo 0 L E fun l => boundK hi 0 L E fun h => andK (Nat.beq l 0) (andK (Nat.beq h 0) (K .se)))) (fun id off n cap P t lo hi L E K => optK (idxB P t) fun q => andK (Bool.rec (motive := fun _ => Bool) true false q.1) (boundK lo 0 L E fun l => boundK hi n L E fun h => cutSl id off cap q.2.2 l h K)) (fun id off n k P t lo hi L E K => optK (idxB P t) fun q => andK (Bool.rec (motive := fun _ => Bool) true false q.1) (boundK lo 0 L E fun l => boundK hi n L E fun h => cutSv id off n k q.2.2 l h K)) (fun _ _ _ _ _ _ _ => false) (fun _ _ _ _ _ _ _ _ => false) (fun _ _ _ _ _ _ _ _ _ _ => false) (fun _ _ _ _ _ _ _ => false) (fun _ _ _ _ _ _ _ => false) (fun _ _ _ _ _ _ _ _ _ _ => false) (fun _ _ _ _ _ _ _ => false) (fun _ _ _ _ _ _ _ _ _ _ _ => false) (fun _ _ _ _ _ _ _ _ _ => false) (fun _ _ _ _ _ _ _ _ _ => false) x P t lo hi L E K
noncomputable def slice3V (x : AV) (h mx : Nat) (K : AV → Bool) : Bool := AV.rec (motive := fun _ => (Nat) → (Nat) → (AV → Bool) → Bool) (fun _ _ _ => false) (fun _ _ _ _ => false) (fun _ _ _ _ _ => false) (fun _ _ _ _ _ => false) (fun _ _ _ => false) (fun _ _ _ _ _ => false) (fun _ _ _ => false) (fun _ _ _ => false) (fun id off n cap h mx K => andK (Nat.ble h mx) (andK (Nat.ble mx cap) (K (.sl id off h mx)))) (fun id off n k h mx K => andK (Nat.ble h mx) (andK (Nat.ble mx n) (K (.sl id off h mx)))) (fun _ _ _ => false) (fun _ _ _ _ => false) (fun _ _ _ _ _ _ => false) (fun _ _ _ => false) (fun _ _ _ => false) (fun _ _ _ _ _ _ => false) (fun _ _ _ => false) (fun _ _ _ _ _ _ _ => false) (fun _ _ _ _ _ => false) (fun _ _ _ _ _ => false) x h mx K
noncomputable def isNone (b : Option Operand) (x : Bool) : Bool := Option.rec (motive := fun _ => Bool → Bool) (fun x => x) (fun _ _ => false) b x
theorem isNone_sound {b : Option Operand} {x : Bool} (h : isNone b x = true) : b = none ∧ x = true := by cases b with
  | none => exact ⟨rfl, h⟩
  | some _ => cases h
noncomputable def pSlice (t : TypeId) (x : Operand) (lo hi mx : Option Operand) (P : Program) (L E : En) (K : AV → Bool) : Bool :=
  Option.rec (motive := fun _ => TypeId → Operand → Option Operand → Option Operand → Program → En → En → (AV → Bool) → Bool) (fun t x lo hi P L E K => sliceV (opV x L E) P t lo hi L E K)
    (fun y t x lo hi P L E K => isNone lo (optK (idxB P t) fun q => andK (Bool.rec (motive := fun _ => Bool) true false q.1) (optK hi fun u => asN (opV u L E) fun h => asN (opV y L E) fun mx => slice3V (opV x L E) h mx K))) mx t x lo hi P L E K
theorem cutSl_sound {id off cap sz l h b c n : Nat} {t el : TypeId} {lo hi : Option Operand} (hop : o.op = .slice t x lo hi none) (ht : P.underlying t = some (.slice el)) (hsz : TySize P el sz) (hm : m id = some (b, c)) (hx : ev e x = slc b off n cap)
    (hl : loOf e lo = some (l : Int)) (hh : hiOf e n hi = some (h : Int)) (hk : cutSl id off cap sz l h K = true) : PS P e o m K := by
  obtain ⟨h1, h2⟩ := andK_sound hk
  obtain ⟨h3, h4⟩ := andK_sound h2
  rw [natK_eq, natK_eq] at h4
  have h1 := Nat.le_of_ble_eq_true h1
  have h3 := Nat.le_of_ble_eq_true h3
  have hr := p_sliceN (P := P) hop ht hsz hx hl hh ⟨h1, h3⟩
  by_cases g : cap = l
  · rw [if_pos g] at hr
    rw [show Nat.beq cap l = true from by rw [g]; simp] at h4
    exact PS.mk1 (av := .sl _ _ _ _) hr ⟨b, c, hm, rfl, Nat.sub_le_sub_right h3 l⟩ h4
  · rw [if_neg g] at hr
    rw [beq_ne g] at h4
    have h4 : natK (Nat.add off (Nat.mul l sz)) (fun o => K (.sl id o (Nat.sub h l) (Nat.sub cap l))) = true := h4
    rw [natK_eq] at h4
    exact PS.mk1 (av := .sl _ _ _ _) hr ⟨b, c, hm, rfl, Nat.sub_le_sub_right h3 l⟩ h4
theorem not_rec_t {q : Bool} (h : Bool.rec (motive := fun _ => Bool) true false q = true) : q = false := by cases q <;> first | rfl | cases h
theorem pSlice_sound {t : TypeId} {lo hi mx : Option Operand} (hop : o.op = .slice t x lo hi mx) (he : EnvRel m L E e) (h : pSlice t x lo hi mx P L E K = true) : PS P e o m K := by
  cases mx with
  | none =>
    have h : sliceV (opV x L E) P t lo hi L E K = true := h
    unfold sliceV at h
    generalize hv : opV x L E = v at h
    have hr := opR he hv
    cases v with
    | s len n =>
      obtain ⟨h1, h2⟩ := andK_sound h
      obtain ⟨l, h3, h4⟩ := boundK_lo he h2
      obtain ⟨hh, h5, h6⟩ := boundK_hi he h4
      obtain ⟨h7, h8⟩ := andK_sound h6
      obtain ⟨h9, h10⟩ := andK_sound h8
      rw [natK_eq, natK_eq] at h10
      have h7 := Nat.le_of_ble_eq_true h7
      have h9 := Nat.le_of_ble_eq_true h9
      refine PS.mk1 (av := .s _ _) (p_sliceN_s (l := l) (h := hh) hop (tyc7 h1) (opS he hv) h3 (by rw [bytesOf_length]; exact h5) ⟨h7, by rw [bytesOf_length]; exact h9⟩) ?_ h10
      show strV _ = strV _
      rw [bytesOf_take hh len n h9, bytesOf_drop]
      show strV (bytesOf (hh - l) (n / 256 ^ l)) = strV (bytesOf (hh - l) (n / 256 ^ l % 256 ^ (hh - l)))
      rw [bytesOf_mod]
    | sl id off n cap =>
      obtain ⟨⟨arr, n', sz⟩, h1, h2⟩ := optK_sound h
      obtain ⟨h3, h4⟩ := andK_sound h2
      have h3 : arr = false := not_rec_t h3
      subst h3
      obtain ⟨l, h5, h6⟩ := boundK_lo he h4
      obtain ⟨hh, h7, h8⟩ := boundK_hi he h6
      obtain ⟨el, h9, h10⟩ := idxB_f h1
      obtain ⟨b, c, r1, r2, r3⟩ := hr
      exact cutSl_sound hop h9 h10 r1 r2 h5 h7 h8
    | sv id off n k =>
      obtain ⟨⟨arr, n', sz⟩, h1, h2⟩ := optK_sound h
      obtain ⟨h3, h4⟩ := andK_sound h2
      have h3 : arr = false := not_rec_t h3
      subst h3
      obtain ⟨l, h5, h6⟩ := boundK_lo he h4
      obtain ⟨hh, h7, h8⟩ := boundK_hi he h6
      obtain ⟨el, h9, h10⟩ := idxB_f h1
      obtain ⟨b, c, r1, r2, r3⟩ := hr
      obtain ⟨h11, h12⟩ := andK_sound h8
      obtain ⟨h13, h14⟩ := andK_sound h12
      have h11 := Nat.le_of_ble_eq_true h11
      have h13 := Nat.le_of_ble_eq_true h13
      have hp := p_sliceN (P := P) hop h9 h10 r3 h5 h7 ⟨h11, by omega⟩
      rw [rec_blt] at h14
      by_cases g : l < n
      · rw [if_pos g, natK_eq, natK_eq, natK_eq] at h14
        rw [if_neg (by omega)] at hp
        refine PS.mk1 (av := .sv _ _ _ _) hp ⟨b, c, r1, ?_, ?_⟩ h14
        · show hh - l + (k + l) ≤ c; omega
        · show slc b _ _ _ = slc b _ (hh - l) (c - (k + l)); rw [Nat.sub_sub]; rfl
      · rw [if_neg g] at h14
        have hl : hh = l := by omega
        subst hl
        cases hb : Nat.beq hh 0 with
        | true =>
          have := Nat.eq_of_beq_eq_true hb
          subst this
          rw [hb] at h14
          refine PS.mk1 (av := .sv _ _ _ _) hp ⟨b, c, r1, by omega, ?_⟩ h14
          simp
        | false =>
          rw [hb] at h14
          refine PS.mk1 (av := .se) hp ?_ h14
          exact ⟨_, _, by rw [Nat.sub_self]⟩
    | sn =>
      obtain ⟨⟨arr, n', sz⟩, h1, h2⟩ := optK_sound h
      obtain ⟨h3, h4⟩ := andK_sound h2
      have h3 : arr = false := not_rec_t h3
      subst h3
      obtain ⟨l, h5, h6⟩ := boundK_lo he h4
      obtain ⟨hh, h7, h8⟩ := boundK_hi he h6
      obtain ⟨el, h9, h10⟩ := idxB_f h1
      obtain ⟨h11, h12⟩ := andK_sound h8
      obtain ⟨h13, h14⟩ := andK_sound h12
      have h11 := Nat.eq_of_beq_eq_true h11
      have h13 := Nat.eq_of_beq_eq_true h13
      subst h11 h13
      have hp := run_sliceAny (P := P) hop h9 h10 hr h5 h7 ⟨Nat.le_refl _, Nat.le_refl _⟩
      exact PS.mk1 (av := .sn) hp rfl h14
    | se =>
      obtain ⟨⟨arr, n', sz⟩, h1, h2⟩ := optK_sound h
      obtain ⟨h3, h4⟩ := andK_sound h2
      have h3 : arr = false := not_rec_t h3
      subst h3
      obtain ⟨l, h5, h6⟩ := boundK_lo he h4
      obtain ⟨hh, h7, h8⟩ := boundK_hi he h6
      obtain ⟨el, h9, h10⟩ := idxB_f h1
      obtain ⟨h11, h12⟩ := andK_sound h8
      obtain ⟨h13, h14⟩ := andK_sound h12
      have h11 := Nat.eq_of_beq_eq_true h11
      have h13 := Nat.eq_of_beq_eq_true h13
      subst h11 h13
      obtain ⟨a, c, r1⟩ := hr
      have hp := run_sliceAny (P := P) hop h9 h10 r1 h5 h7 ⟨Nat.le_refl _, Nat.zero_le _⟩
      exact PS.mk1 (av := .se) hp ⟨_, _, rfl⟩ h14
    | p id off =>
      obtain ⟨⟨arr, n', sz⟩, h1, h2⟩ := optK_sound h
      obtain ⟨h3, h4⟩ := andK_sound h2
      have h3 : arr = true := h3
      subst h3
      obtain ⟨l, h5, h6⟩ := boundK_lo he h4
      obtain ⟨hh, h7, h8⟩ := boundK_hi he h6
      obtain ⟨el, h9, h10⟩ := idxB_t h1
      obtain ⟨b, c, r1, r2⟩ := hr
      obtain ⟨h11, h12⟩ := andK_sound h8
      obtain ⟨h13, h14⟩ := andK_sound h12
      rw [natK_eq, natK_eq] at h14
      have h11 := Nat.le_of_ble_eq_true h11
      have h13 := Nat.le_of_ble_eq_true h13
      have hp := p_sliceN_a (P := P) hop h9 h10 r2 h5 h7 ⟨h11, h13⟩
      by_cases g : n' = l
      · rw [if_pos g] at hp
        rw [show Nat.beq (false, n', sz).2.1 l = true from by rw [g]; simp] at h14
        exact PS.mk1 (av := .sl _ _ _ _) hp ⟨b, c, r1, rfl, Nat.sub_le_sub_right h13 l⟩ h14
      · rw [if_neg g] at hp
        rw [show Nat.beq (true, n', sz).2.1 l = false from beq_ne g] at h14
        have h14 : natK (Nat.add off (Nat.mul l sz)) (fun o => K (.sl id o (Nat.sub hh l) (Nat.sub n' l))) = true := h14
        rw [natK_eq] at h14
        exact PS.mk1 (av := .sl _ _ _ _) hp ⟨b, c, r1, rfl, Nat.sub_le_sub_right h13 l⟩ h14
    | _ => cases h
  | some y =>
    have h : isNone lo (optK (idxB P t) fun q => andK (Bool.rec (motive := fun _ => Bool) true false q.1) (optK hi fun u => asN (opV u L E) fun h => asN (opV y L E) fun mx => slice3V (opV x L E) h mx K)) = true := h
    obtain ⟨rfl, h2⟩ := isNone_sound h
    obtain ⟨⟨arr, n', sz⟩, h3, h4⟩ := optK_sound h2
    obtain ⟨h5, h6⟩ := andK_sound h4
    have h5 : arr = false := not_rec_t h5
    subst h5
    obtain ⟨el, h9, h10⟩ := idxB_f h3
    obtain ⟨u, rfl, h8⟩ := optK_sound h6
    obtain ⟨k, hh, h11, h12⟩ := asN_sound h8
    obtain ⟨k', mx, h13, h14⟩ := asN_sound h12
    unfold slice3V at h14
    generalize hv : opV x L E = v at h14
    have hr := opR he hv
    cases v with
    | sl id off n cap =>
      obtain ⟨b, c, r1, r2, r3⟩ := hr
      obtain ⟨h15, h16⟩ := andK_sound h14
      obtain ⟨h17, h18⟩ := andK_sound h16
      have h15 := Nat.le_of_ble_eq_true h15
      exact PS.mk1 (av := .sl _ _ _ _) (p_slice3 hop h9 h10 r2 (opI he h11) (opI he h13) ⟨h15, Nat.le_of_ble_eq_true h17⟩) ⟨b, c, r1, rfl, h15⟩ h18
    | sv id off n k =>
      obtain ⟨b, c, r1, r3, r2⟩ := hr
      obtain ⟨h15, h16⟩ := andK_sound h14
      obtain ⟨h17, h18⟩ := andK_sound h16
      have h15 := Nat.le_of_ble_eq_true h15
      have h17 := Nat.le_of_ble_eq_true h17
      exact PS.mk1 (av := .sl _ _ _ _) (p_slice3 hop h9 h10 r2 (opI he h11) (opI he h13) ⟨h15, by omega⟩) ⟨b, c, r1, rfl, h15⟩ h18
    | _ => cases h14
end
end Go.Evl
