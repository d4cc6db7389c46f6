/-
  What the model's operations come to, one law each. It proves nothing of the program by itself.
-/
import Derived.Test.YtbbgajjonodlfaaGreatGSl4
set_option linter.unusedVariables false
set_option linter.unusedSimpArgs false
namespace Go.Sl
open Go

abbrev strV (l : List UInt8) : Value := .string ⟨l.toArray⟩
abbrev u8V (b : UInt8) : Value := .int .u8 b.toNat
abbrev ptr (b off : Nat) : Value := .pointer (some ⟨b, off, none⟩)
abbrev slc (b off n cap : Nat) : Value := .slice (some ⟨b, off, none⟩) n cap

section ops
variable {P : Program} {e : Env} {o : Oper} {Rs Hs : List Assn}

theorem p_move {x : Operand} {v : Value} (hop : o.op = .move x) (hv : ev e x = v) : PRun P e o v := by
  intro w; unfold execOp; rw [hop]; simp only [hv]; rfl
theorem p_assign {x : Operand} {v : Value} (hop : o.op = .assign x) (hv : ev e x = v) : PRun P e o v := by
  intro w; unfold execOp; rw [hop]; simp only [hv]; rfl
theorem p_pick_t {c x y : Operand} {v : Value} (hop : o.op = .pick c x y) (hc : ev e c = .bool true) (hx : ev e x = v) : PRun P e o v := by
  intro w; unfold execOp; rw [hop]; simp only [hc, hx]; rfl
theorem p_pick_f {c x y : Operand} {v : Value} (hop : o.op = .pick c x y) (hc : ev e c = .bool false) (hy : ev e y = v) : PRun P e o v := by
  intro w; unfold execOp; rw [hop]; simp only [hc, hy]; rfl
theorem p_not {t : TypeId} {x : Operand} {b : Bool} (hop : o.op = .unOp .not t x) (hx : ev e x = .bool b) : PRun P e o (.bool (!b)) := by
  intro w; unfold execOp; rw [hop]; simp only [hx]; rfl
theorem p_not_dec {t : TypeId} {x : Operand} {p : Prop} [Decidable p] (hop : o.op = .unOp .not t x) (hx : ev e x = .bool (decide p)) : PRun P e o (.bool (decide (¬ p))) := by
  intro w; unfold execOp; rw [hop]; simp only [hx]; rw [show decide (¬p) = !decide p from by simp]; rfl
theorem p_neg {t : TypeId} {x : Operand} {k : IntKind} {a : Int} (hop : o.op = .unOp .neg t x) (hx : ev e x = .int k a) : PRun P e o (.int k (k.wrap (0 - a))) := by
  intro w; unfold execOp; rw [hop]; simp only [hx]; rfl

theorem wrap64_in {a : Int} (h1 : -9223372036854775808 ≤ a) (h2 : a ≤ 9223372036854775807) : IntKind.i64.wrap a = a := by
  unfold IntKind.wrap
  simp [IntKind.bits, IntKind.signed]
  omega
/-- What a whole-number operation comes to. -/
theorem run_bin {op : BinOp} {t t' : TypeId} {x y : Operand} (hop : o.op = .binOp op t x y t') {k : IntKind} {a b : Int} (hx : ev e x = .int k a) (hy : ev e y = .int k b) (hne : op ≠ .shl ∧ op ≠ .shr) {w : World} {v : Value}
    (h : (match op with | .add | .sub | .mul => Op.intArith op k a b | .quo | .rem => Op.intDiv op k a b | .and | .or | .xor | .andNot => Op.intBits op k a b | _ => Op.intCmp op a b).run P w = .ok v w) :
    (execOp (ev e) o).run P w = .ok (.value v) w := by
  unfold execOp
  rw [hop]
  simp only [hx, hy]
  have hg : (eqGuard op t x y (.int k a) (.int k b)).run P w = .ok () w := by
    unfold eqGuard
    cases op <;> rfl
  have hb : (binOp op t (.int k a) (.int k b)).run P w = .ok v w := by
    unfold binOp
    cases op <;> simp only [ne_eq, not_true_eq_false, if_false, false_and, and_false] at hne h ⊢ <;> first | exact h | (exact absurd rfl hne.1) | (exact absurd rfl hne.2)
  simp only [Sem.run_bind, hg, Result.andThen_ok, hb, Sem.run_pure]
section bins
variable {t t' : TypeId} {x y : Operand} {k : IntKind} {a b : Int}
theorem p_add_w (hop : o.op = .binOp .add t x y t') (hx : ev e x = .int k a) (hy : ev e y = .int k b) : PRun P e o (.int k (k.wrap (a + b))) := fun _ => run_bin hop hx hy (by decide) rfl
theorem p_sub_w (hop : o.op = .binOp .sub t x y t') (hx : ev e x = .int k a) (hy : ev e y = .int k b) : PRun P e o (.int k (k.wrap (a - b))) := fun _ => run_bin hop hx hy (by decide) rfl
theorem p_mul_w (hop : o.op = .binOp .mul t x y t') (hx : ev e x = .int k a) (hy : ev e y = .int k b) : PRun P e o (.int k (k.wrap (a * b))) := fun _ => run_bin hop hx hy (by decide) rfl
theorem p_add (hop : o.op = .binOp .add t x y t') (hx : ev e x = .int .i64 a) (hy : ev e y = .int .i64 b) (h : -9223372036854775808 ≤ a + b ∧ a + b ≤ 9223372036854775807) : PRun P e o (.int .i64 (a + b)) := by
  have := p_add_w (P := P) hop hx hy; rwa [wrap64_in h.1 h.2] at this
theorem p_sub (hop : o.op = .binOp .sub t x y t') (hx : ev e x = .int .i64 a) (hy : ev e y = .int .i64 b) (h : -9223372036854775808 ≤ a - b ∧ a - b ≤ 9223372036854775807) : PRun P e o (.int .i64 (a - b)) := by
  have := p_sub_w (P := P) hop hx hy; rwa [wrap64_in h.1 h.2] at this
theorem p_mul (hop : o.op = .binOp .mul t x y t') (hx : ev e x = .int .i64 a) (hy : ev e y = .int .i64 b) (h : -9223372036854775808 ≤ a * b ∧ a * b ≤ 9223372036854775807) : PRun P e o (.int .i64 (a * b)) := by
  have := p_mul_w (P := P) hop hx hy; rwa [wrap64_in h.1 h.2] at this
theorem p_quo_w (hop : o.op = .binOp .quo t x y t') (hx : ev e x = .int k a) (hy : ev e y = .int k b) (h : b ≠ 0) : PRun P e o (.int k (k.wrap (a.tdiv b))) := fun _ => run_bin hop hx hy (by decide) (by simp only [Op.intDiv, h, if_false]; rfl)
theorem p_rem_w (hop : o.op = .binOp .rem t x y t') (hx : ev e x = .int k a) (hy : ev e y = .int k b) (h : b ≠ 0) : PRun P e o (.int k (a.tmod b)) := fun _ => run_bin hop hx hy (by decide) (by simp only [Op.intDiv, h, if_false]; rfl)
theorem p_quo (hop : o.op = .binOp .quo t x y t') (hx : ev e x = .int .i64 a) (hy : ev e y = .int .i64 b) (h : 0 ≤ a ∧ a ≤ 9223372036854775807 ∧ 0 < b) : PRun P e o (.int .i64 (a / b)) := by
  have := p_quo_w (P := P) hop hx hy (by omega)
  rw [Int.tdiv_eq_ediv_of_nonneg h.1, wrap64_in] at this
  · exact this
  · have := Int.ediv_nonneg h.1 (Int.le_of_lt h.2.2); omega
  · have := Int.ediv_le_self b h.1; omega
theorem p_and (hop : o.op = .binOp .and t x y t') (hx : ev e x = .int k a) (hy : ev e y = .int k b) : PRun P e o (.int k (k.wrap (BitVec.ofInt k.bits a &&& BitVec.ofInt k.bits b).toNat)) := fun _ => run_bin hop hx hy (by decide) rfl
theorem p_or (hop : o.op = .binOp .or t x y t') (hx : ev e x = .int k a) (hy : ev e y = .int k b) : PRun P e o (.int k (k.wrap (BitVec.ofInt k.bits a ||| BitVec.ofInt k.bits b).toNat)) := fun _ => run_bin hop hx hy (by decide) rfl
theorem p_xor (hop : o.op = .binOp .xor t x y t') (hx : ev e x = .int k a) (hy : ev e y = .int k b) : PRun P e o (.int k (k.wrap (BitVec.ofInt k.bits a ^^^ BitVec.ofInt k.bits b).toNat)) := fun _ => run_bin hop hx hy (by decide) rfl
theorem p_eql (hop : o.op = .binOp .eql t x y t') (hx : ev e x = .int k a) (hy : ev e y = .int k b) : PRun P e o (.bool (decide (a = b))) := fun _ => run_bin hop hx hy (by decide) rfl
theorem p_neq (hop : o.op = .binOp .neq t x y t') (hx : ev e x = .int k a) (hy : ev e y = .int k b) : PRun P e o (.bool (decide (a ≠ b))) := fun w => run_bin hop hx hy (by decide) (by
  simp only [Op.intCmp, Sem.run_pure]; congr 2; by_cases h : a = b <;> simp [h])
theorem p_lss (hop : o.op = .binOp .lss t x y t') (hx : ev e x = .int k a) (hy : ev e y = .int k b) : PRun P e o (.bool (decide (a < b))) := fun _ => run_bin hop hx hy (by decide) rfl
theorem p_leq (hop : o.op = .binOp .leq t x y t') (hx : ev e x = .int k a) (hy : ev e y = .int k b) : PRun P e o (.bool (decide (a ≤ b))) := fun _ => run_bin hop hx hy (by decide) rfl
theorem p_gtr (hop : o.op = .binOp .gtr t x y t') (hx : ev e x = .int k a) (hy : ev e y = .int k b) : PRun P e o (.bool (decide (b < a))) := fun _ => run_bin hop hx hy (by decide) rfl
theorem p_geq (hop : o.op = .binOp .geq t x y t') (hx : ev e x = .int k a) (hy : ev e y = .int k b) : PRun P e o (.bool (decide (b ≤ a))) := fun _ => run_bin hop hx hy (by decide) rfl
theorem p_shl {k' : IntKind} (hop : o.op = .binOp .shl t x y t') (hx : ev e x = .int k a) (hy : ev e y = .int k' b) (hb : 0 ≤ b) : PRun P e o (.int k (k.wrap (a * 2 ^ (min b.toNat k.bits)))) := by
  intro w; unfold execOp; rw [hop]; simp only [hx, hy]
  have hb' : ¬ b < 0 := by omega
  simp only [eqGuard, binOp, Op.shift, hb', if_false]
  rfl
theorem p_shr {k' : IntKind} (hop : o.op = .binOp .shr t x y t') (hx : ev e x = .int k a) (hy : ev e y = .int k' b) (hb : 0 ≤ b) : PRun P e o (.int k (a.fdiv (2 ^ (min b.toNat k.bits)))) := by
  intro w; unfold execOp; rw [hop]; simp only [hx, hy]
  have hb' : ¬ b < 0 := by omega
  simp only [eqGuard, binOp, Op.shift, hb', if_false]
  rfl
end bins

/-! strings -/
section strs
variable {t t' : TypeId} {x y : Operand} {l r : List UInt8}
theorem bytes_toList (l : List UInt8) : (ByteArray.mk l.toArray).toList = l := ByteArray.toList_mk l
theorem bytes_size (l : List UInt8) : (ByteArray.mk l.toArray).size = l.length := rfl
theorem p_sadd (hop : o.op = .binOp .add t x y t') (hx : ev e x = strV l) (hy : ev e y = strV r) (h : l.length + r.length ≤ 9223372036854775807) : PRun P e o (strV (l ++ r)) := by
  intro w; unfold execOp; rw [hop]; simp only [hx, hy]
  have h2 : ¬ (((l.length + r.length : Nat) : Int) > IntKind.i64.max) := by simp [IntKind.max, IntKind.bits, IntKind.signed]; omega
  simp only [eqGuard, binOp, Op.stringOp, bytes_size, h2, if_false]
  show Result.ok _ _ = _
  congr 3
theorem p_seql (hop : o.op = .binOp .eql t x y t') (hx : ev e x = strV l) (hy : ev e y = strV r) : PRun P e o (.bool (decide (l = r))) := by
  intro w; unfold execOp; rw [hop]; simp only [hx, hy]
  simp only [eqGuard, binOp, Op.stringOp, bytes_toList]
  rw [show decide (l = r) = (l == r) from by by_cases h : l = r <;> simp [h]]
  rfl
theorem p_sneq (hop : o.op = .binOp .neq t x y t') (hx : ev e x = strV l) (hy : ev e y = strV r) : PRun P e o (.bool (decide (l ≠ r))) := by
  intro w; unfold execOp; rw [hop]; simp only [hx, hy]
  simp only [eqGuard, binOp, Op.stringOp, bytes_toList]
  rw [show decide (l ≠ r) = !(l == r) from by by_cases h : l = r <;> simp [h]]
  rfl
theorem p_slss (hop : o.op = .binOp .lss t x y t') (hx : ev e x = strV l) (hy : ev e y = strV r) : PRun P e o (.bool (Op.bytesLess l r)) := by
  intro w; unfold execOp; rw [hop]; simp only [hx, hy]
  simp only [eqGuard, binOp, Op.stringOp, bytes_toList]
  rfl
theorem p_sgtr (hop : o.op = .binOp .gtr t x y t') (hx : ev e x = strV l) (hy : ev e y = strV r) : PRun P e o (.bool (!(Op.bytesLess l r || l == r))) := by
  intro w; unfold execOp; rw [hop]; simp only [hx, hy]
  simp only [eqGuard, binOp, Op.stringOp, bytes_toList]
  rfl
theorem p_index_s {t : TypeId} {x i : Operand} {k : IntKind} {n : Int} {b : UInt8} (hop : o.op = .index t x i) (ht : P.underlying t = some .string) (hx : ev e x = strV l) (hi : ev e i = .int k n) (h0 : 0 ≤ n) (hb : l[n.toNat]? = some b) : PRun P e o (u8V b) := by
  intro w; unfold execOp; rw [hop]; simp only [hx, hi]
  simp only [Instr.index, asIntOf, Sem.run_bind, Sem.run_pure, Result.andThen_ok, run_underlying' ht, h0, if_true]
  have : (ByteArray.mk l.toArray)[n.toNat]? = some b := by
    have hlt : n.toNat < l.length := by
      rcases Nat.lt_or_ge n.toNat l.length with g | g
      · exact g
      · rw [List.getElem?_eq_none g] at hb; cases hb
    rw [getElem?_pos (ByteArray.mk l.toArray) n.toNat (show n.toNat < l.toArray.size by simpa using hlt)]
    rw [List.getElem?_eq_getElem hlt] at hb
    rw [← hb]
    rfl
  rw [this]
  rfl
end strs

/-! conversions of numbers -/
theorem p_conv {src dst : TypeId} {x : Operand} {ks kd : IntKind} {a : Int} (hop : o.op = .convert src dst x) (hs : P.underlying src = some (.int ks)) (hd : P.underlying dst = some (.int kd)) (hx : ev e x = .int ks a) : PRun P e o (.int kd (kd.wrap a)) := by
  intro w; unfold execOp; rw [hop]; simp only [hx]
  simp only [convert, Sem.run_bind, run_underlying' hs, run_underlying' hd, Result.andThen_ok]
  rfl
theorem p_conv_ss {src dst : TypeId} {x : Operand} {l : List UInt8} (hop : o.op = .convert src dst x) (hs : P.underlying src = some .string) (hd : P.underlying dst = some .string) (hx : ev e x = strV l) : PRun P e o (strV l) := by
  intro w; unfold execOp; rw [hop]; simp only [hx]
  simp only [convert, Sem.run_bind, run_underlying' hs, run_underlying' hd, Result.andThen_ok]
  rfl

/-! structs and addresses -/
theorem p_nilCheck {x : Operand} {b off : Nat} (hop : o.op = .nilCheck x) (hx : ev e x = ptr b off) : PRun P e o (ptr b off) := by
  intro w; unfold execOp; rw [hop]; simp only [hx]; rfl
theorem p_extract {x : Operand} {i : Nat} {vs : List Value} {v : Value} (hop : o.op = .extract x i) (hx : ev e x = .tuple vs.toArray) (hv : nth vs i = some v) : PRun P e o v := by
  intro w; unfold execOp; rw [hop]; simp only [hx]
  rw [nth_eq] at hv
  simp only [Instr.extract, List.getElem?_toArray, hv]
  rfl
theorem p_fieldAddr {t ft : TypeId} {x : Operand} {f b off fo : Nat} (hop : o.op = .fieldAddr t x f) (hf : FieldAt P t f fo ft) (hx : ev e x = ptr b off) : PRun P e o (ptr b (off + fo)) := by
  intro w; unfold execOp; rw [hop]; simp only [hx]
  obtain ⟨fs, fd, i, h1, h2, h3, h4, h5, h6⟩ := hf
  simp only [Instr.fieldAt, Instr.sureAddr, Sem.run_bind, run_underlying' h1, Result.andThen_ok, h2, Sem.run_pure, fieldPlace]
  rw [h4]
  simp only [sizeOf, typeInfo, Sem.run_bind, run_program, Result.andThen_ok, h5, Sem.run_pure, h6, if_false]
  rw [addr_add, h3]
theorem p_field1 {t ft : TypeId} {x : Operand} {f fo : Nat} {cs : List Value} {v : Value} (hop : o.op = .field t x f) (hf : FieldAt P t f fo ft) (hs : Scalar P ft) (hx : ev e x = .agg cs.toArray) (hv : nth cs fo = some v) : PRun P e o v := by
  intro w; unfold execOp; rw [hop]; simp only [hx]
  obtain ⟨fs, fd, i, h1, h2, h3, h4, h5, h6⟩ := hf
  rw [nth_eq] at hv
  simp only [Instr.field, asAgg, Sem.run_bind, run_underlying' h1, Result.andThen_ok, h2, Sem.run_pure, part]
  rw [h4, run_isAgg_no hs]
  simp [h3, hv]
theorem p_indexAddr {t el : TypeId} {x ix : Operand} {b off n cap sz : Nat} {k : IntKind} {i : Int} (hop : o.op = .indexAddr t x ix) (ht : P.underlying t = some (.slice el)) (hsz : TySize P el sz)
    (hx : ev e x = slc b off n cap) (hi : ev e ix = .int k i) (hb : 0 ≤ i ∧ i < n) : PRun P e o (ptr b (off + i.toNat * sz)) := by
  intro w; unfold execOp; rw [hop]; simp only [hx, hi]
  simp only [Instr.indexAt, asIntOf, Sem.run_bind, run_underlying' ht, Result.andThen_ok, Sem.run_pure, hb, and_self, if_true, run_sizeOf' hsz]
  rw [addr_add]
theorem p_indexAddr_a {t el : TypeId} {x ix : Operand} {b off n sz : Nat} {k : IntKind} {i : Int} (hop : o.op = .indexAddr t x ix) (ht : P.underlying t = some (.array n el)) (hsz : TySize P el sz)
    (hx : ev e x = ptr b off) (hi : ev e ix = .int k i) (hb : 0 ≤ i ∧ i < n) : PRun P e o (ptr b (off + i.toNat * sz)) := by
  intro w; unfold execOp; rw [hop]; simp only [hx, hi]
  simp only [Instr.indexAt, asIntOf, Instr.sureAddr, Sem.run_bind, run_underlying' ht, Result.andThen_ok, Sem.run_pure, hb, and_self, if_true, run_sizeOf' hsz]
  rw [addr_add]

/-! lengths -/
theorem run_builtin {b : Builtin} {xs : Array Operand} {ats : Array TypeId} {w w' : World} {v : Value} (hop : o.op = .call { callee := .builtin b, args := xs, argTypes := ats })
    (h : (builtin b ats o.type (xs.map fun | .const _ => true | _ => false) (xs.map (ev e))).run P w = .ok (.value v) w') : (execOp (ev e) o).run P w = .ok (.value v) w' := by
  unfold execOp; rw [hop]
  simp only [resolve, Sem.run_bind, Sem.run_pure, Result.andThen_ok, invoke]
  exact h
theorem map1 (x : Operand) : (#[x] : Array Operand).map (ev e) = #[ev e x] := by simp
theorem map2 (x y : Operand) : (#[x, y] : Array Operand).map (ev e) = #[ev e x, ev e y] := by simp
theorem p_len_s {t : TypeId} {x : Operand} {l : List UInt8} (hop : o.op = .call { callee := .builtin .len, args := #[x], argTypes := #[t] }) (ht : P.underlying t = some .string) (hx : ev e x = strV l) : PRun P e o (.int .i64 l.length) := by
  intro w
  refine run_builtin hop ?_
  rw [map1, hx]
  simp [builtin, Builtin.len_, run_underlying' ht, goInt]
  rfl
theorem p_len {t el : TypeId} {x : Operand} {a : Option Addr} {n cap : Nat} (hop : o.op = .call { callee := .builtin .len, args := #[x], argTypes := #[t] }) (ht : P.underlying t = some (.slice el)) (hx : ev e x = .slice a n cap) : PRun P e o (.int .i64 n) := by
  intro w
  refine run_builtin hop ?_
  rw [map1, hx]
  simp [builtin, Builtin.len_, run_underlying' ht, goInt]
theorem p_max {ats : Array TypeId} {x y : Operand} {k : IntKind} {a b : Int} (hop : o.op = .call { callee := .builtin .max, args := #[x, y], argTypes := ats }) (hx : ev e x = .int k a) (hy : ev e y = .int k b) : PRun P e o (.int k (if b > a then b else a)) := by
  intro w
  refine run_builtin hop ?_
  rw [map2, hx, hy]
  simp [builtin, Builtin.max_, Builtin.max2]
theorem p_min {ats : Array TypeId} {x y : Operand} {k : IntKind} {a b : Int} (hop : o.op = .call { callee := .builtin .min, args := #[x, y], argTypes := ats }) (hx : ev e x = .int k a) (hy : ev e y = .int k b) : PRun P e o (.int k (if b < a then b else a)) := by
  intro w
  refine run_builtin hop ?_
  rw [map2, hx, hy]
  simp [builtin, Builtin.min_, Builtin.min2]

/-! slicing -/
theorem run_bound {k : IntKind} {i : Int} {y : Nat} {c : BoundsCode} {w : World} (h : 0 ≤ i ∧ i ≤ y) : (Instr.sliceBound (.int k i) y c).run P w = .ok i.toNat w := by
  simp [Instr.sliceBound, asIntOf, h]
/-- The bounds of a slice expression: what is not written is 0, or the length. -/
def loOf (e : Env) : Option Operand → Option Int
  | none => some 0
  | some x => match ev e x with | .int _ i => some i | _ => none
def hiOf (e : Env) (n : Nat) : Option Operand → Option Int
  | none => some n
  | some x => match ev e x with | .int _ i => some i | _ => none
theorem loOf_some {x : Operand} {l : Int} (h : loOf e (some x) = some l) : ∃ k, ev e x = .int k l := by
  simp only [loOf] at h
  split at h
  · rename_i k i hx; simp only [Option.some.injEq] at h; subst h; exact ⟨k, hx⟩
  · cases h
theorem hiOf_some {x : Operand} {n : Nat} {l : Int} (h : hiOf e n (some x) = some l) : ∃ k, ev e x = .int k l := by
  simp only [hiOf] at h
  split at h
  · rename_i k i hx; simp only [Option.some.injEq] at h; subst h; exact ⟨k, hx⟩
  · cases h
theorem run_bounds {s : Bool} {lo hi : Option Operand} {n cap : Nat} {l h : Int} (hl : loOf e lo = some l) (hh : hiOf e n hi = some h) (hb : 0 ≤ l ∧ l ≤ h ∧ h ≤ cap) {w : World} :
    (Instr.sliceBounds s n cap (lo.map (ev e)) (hi.map (ev e)) none).run P w = .ok (l.toNat, h.toNat, cap) w := by
  have h2 : ((h.toNat : Nat) : Int) = h := Int.toNat_of_nonneg (by omega)
  unfold Instr.sliceBounds
  cases hi with
  | none =>
    simp only [hiOf, Option.some.injEq] at hh
    subst hh
    cases lo with
    | none =>
      simp only [loOf, Option.some.injEq] at hl
      subst hl
      simp
    | some x =>
      obtain ⟨k, hx⟩ := loOf_some hl
      simp [hx, run_bound (P := P) (w := w) (show 0 ≤ l ∧ l ≤ ((n : Nat) : Int) from ⟨hb.1, hb.2.1⟩)]
  | some y =>
    obtain ⟨k', hy⟩ := hiOf_some hh
    cases lo with
    | none =>
      simp only [loOf, Option.some.injEq] at hl
      subst hl
      cases s <;> simp [hy, run_bound (P := P) (w := w) (show 0 ≤ h ∧ h ≤ ((cap : Nat) : Int) from ⟨by omega, hb.2.2⟩)]
    | some x =>
      obtain ⟨k, hx⟩ := loOf_some hl
      have a1 := fun c => run_bound (P := P) (w := w) (k := k') (c := c) (show 0 ≤ h ∧ h ≤ ((cap : Nat) : Int) from ⟨by omega, hb.2.2⟩)
      have a2 := fun c => run_bound (P := P) (w := w) (k := k) (c := c) (show 0 ≤ l ∧ l ≤ ((h.toNat : Nat) : Int) from ⟨hb.1, by omega⟩)
      cases s <;> simp [hx, hy, a1, a2]
theorem p_slice_s {t : TypeId} {x : Operand} {lo hi : Option Operand} {s : List UInt8} {l h : Int} (hop : o.op = .slice t x lo hi none) (ht : P.underlying t = some .string) (hx : ev e x = strV s)
    (hl : loOf e lo = some l) (hh : hiOf e s.length hi = some h) (hb : 0 ≤ l ∧ l ≤ h ∧ h ≤ s.length) : PRun P e o (strV ((s.take h.toNat).drop l.toNat)) := by
  intro w; unfold execOp; rw [hop]; simp only [hx]
  simp only [Instr.sliceAt, Instr.slice, Sem.run_bind, run_underlying' ht, Result.andThen_ok, Option.map_none, Option.isSome_none, Bool.false_eq_true, if_false]
  have := run_bounds (P := P) (s := false) (cap := s.length) hl hh hb (w := w)
  simp only [bytes_size, Result.andThen_ok, Sem.run_pure, this]
  congr 3
  apply ByteArray.ext
  simp only [ByteArray.data_extract, List.extract_toArray, List.extract_eq_take_drop, List.drop_take]
theorem p_slice {t el : TypeId} {x : Operand} {lo hi : Option Operand} {b off n cap sz : Nat} {l h : Int} (hop : o.op = .slice t x lo hi none) (ht : P.underlying t = some (.slice el)) (hsz : TySize P el sz) (hx : ev e x = slc b off n cap)
    (hl : loOf e lo = some l) (hh : hiOf e n hi = some h) (hb : 0 ≤ l ∧ l ≤ h ∧ h ≤ cap) : PRun P e o (slc b (if cap = l.toNat then off else off + l.toNat * sz) (h.toNat - l.toNat) (cap - l.toNat)) := by
  intro w; unfold execOp; rw [hop]; simp only [hx]
  simp only [Instr.sliceAt, Instr.slice, Sem.run_bind, run_underlying' ht, Result.andThen_ok, Option.map_none]
  have := run_bounds (P := P) (s := true) hl hh hb (w := w)
  simp only [Result.andThen_ok, Sem.run_pure, this, run_sizeOf' hsz, Option.map_some, addr_add]
  split <;> rfl
theorem p_slice_a {t el : TypeId} {x : Operand} {lo hi : Option Operand} {b off n sz : Nat} {l h : Int} (hop : o.op = .slice t x lo hi none) (ht : P.underlying t = some (.array n el)) (hsz : TySize P el sz) (hx : ev e x = ptr b off)
    (hl : loOf e lo = some l) (hh : hiOf e n hi = some h) (hb : 0 ≤ l ∧ l ≤ h ∧ h ≤ n) : PRun P e o (slc b (if n = l.toNat then off else off + l.toNat * sz) (h.toNat - l.toNat) (n - l.toNat)) := by
  intro w; unfold execOp; rw [hop]; simp only [hx]
  simp only [Instr.sliceAt, Instr.sureAddr, Sem.run_bind, run_underlying' ht, Result.andThen_ok, Option.map_none, Sem.run_pure]
  have := run_bounds (P := P) (s := false) hl hh hb (w := w)
  simp only [Result.andThen_ok, this, run_sizeOf' hsz, addr_add]
  split <;> rfl

/-! loads -/
theorem q_load {t : TypeId} {x : Operand} {b off i : Nat} {T : TypeId} {cs : List Value} {v : Value} (hop : o.op = .load t x) (ht : Scalar P t) (hx : ev e x = ptr b off) (hn : nth Rs i = some (row b T cs)) (hv : cs[off]? = some v) : QRun P e Rs o v := by
  intro W0 w hs; unfold execOp; rw [hop]; simp only [hx]
  simp only [Instr.loadAt, Instr.sureAddr, loadVar, Sem.run_bind, Sem.run_pure, Result.andThen_ok, run_isAgg_no ht, Bool.false_eq_true, if_false, run_load, hs.cell hn hv]
theorem q_loadA {t : TypeId} {x : Operand} {b off i sz : Nat} {T : TypeId} {cs vs : List Value} (hop : o.op = .load t x) (ht : IsAgg P t) (hsz : TySize P t sz) (hx : ev e x = ptr b off) (hn : nth Rs i = some (row b T cs))
    (hl : off + sz ≤ cs.length) (hv : (cs.drop off).take sz = vs) : QRun P e Rs o (.agg vs.toArray) := by
  intro W0 w hs; unfold execOp; rw [hop]; simp only [hx]
  simp only [Instr.loadAt, Instr.sureAddr, loadVar, Sem.run_bind, Sem.run_pure, Result.andThen_ok, run_isAgg_yes ht, if_true, run_sizeOf' hsz, hs.loadCells hn hl, hv]

/-! stores and new rows -/
theorem run_storeVar {W0 w : World} {t : TypeId} {b off i : Nat} {T : TypeId} {cs vs : List Value} {v : Value} {sz : Nat} (hs : Sat W0 (sep Hs) w) (hsz : TySize P t sz) (hv : v.cells.toList = vs) (hvs : vs.length = sz) (h1 : ∀ u ∈ vs, u.oneCell' = true)
    (hn : nth Hs i = some (row b T cs)) (hl : off + sz ≤ cs.length) : ∃ w', (storeVar t ⟨b, off, none⟩ v).run P w = .ok () w' ∧ Sat W0 (sep (setN Hs i (row b T (lay cs off vs)))) w' := by
  unfold storeVar
  have hc : v.cells.size = sz := by rw [← Array.length_toList, hv, hvs]
  simp only [Sem.run_bind, run_sizeOf' hsz, Result.andThen_ok, hc, ne_eq, not_true_eq_false, if_false, hv]
  obtain ⟨w', a1, a2⟩ := hs.storeCells (P := P) (off := off) (k := 0) (vs := vs) hn (by omega) h1
  exact ⟨w', a1, a2⟩
theorem e_store {t : TypeId} {x y : Operand} {b off i : Nat} {T : TypeId} {cs : List Value} {v : Value} (hop : o.op = .store t x y) (hsz : TySize P t 1) (hx : ev e x = ptr b off) (hy : ev e y = v) (hv : v.oneCell' = true)
    (hn : nth Hs i = some (row b T cs)) (hl : off < cs.length) : ERun P e Hs o (fun u H => u = undef ∧ H = setN Hs i (row b T (cs.set off v))) := by
  intro W0 w hs
  have hc : v.cells.toList = [v] := by cases v <;> first | rfl | cases hv
  obtain ⟨w', a1, a2⟩ := run_storeVar (P := P) (sz := 1) (off := off) hs hsz hc rfl (by simpa using hv) hn (by omega)
  refine ⟨undef, w', _, .inr ⟨?_, rfl⟩, ⟨rfl, rfl⟩, by simpa [lay] using a2⟩
  unfold execOp; rw [hop]; simp only [hx, hy]
  simp only [Instr.storeAt, Instr.sureAddr, Sem.run_bind, Sem.run_pure, Result.andThen_ok, a1]
theorem e_storeA {t : TypeId} {x y : Operand} {b off i sz : Nat} {T : TypeId} {cs vs : List Value} (hop : o.op = .store t x y) (hsz : TySize P t sz) (hx : ev e x = ptr b off) (hy : ev e y = .agg vs.toArray) (hvs : vs.length = sz) (h1 : ∀ u ∈ vs, u.oneCell' = true)
    (hn : nth Hs i = some (row b T cs)) (hl : off + sz ≤ cs.length) : ERun P e Hs o (fun u H => u = undef ∧ H = setN Hs i (row b T (lay cs off vs))) := by
  intro W0 w hs
  obtain ⟨w', a1, a2⟩ := run_storeVar (P := P) (v := .agg vs.toArray) hs hsz (by simp [Value.cells]) hvs h1 hn hl
  refine ⟨undef, w', _, .inr ⟨?_, rfl⟩, ⟨rfl, rfl⟩, a2⟩
  unfold execOp; rw [hop]; simp only [hx, hy]
  simp only [Instr.storeAt, Instr.sureAddr, Sem.run_bind, Sem.run_pure, Result.andThen_ok, a1]
theorem run_newRow {W0 w : World} (hs : Sat W0 (sep Hs) w) (T : TypeId) (cs : List Value) : ∃ b w', (newRow T cs.toArray).run P w = .ok ⟨b, 0, none⟩ w' ∧ Sat W0 (sep (row b T cs :: Hs)) w' :=
  ⟨w.heap.size, _, rfl, hs.newRow T cs⟩
theorem e_alloc {t : TypeId} {sz bytes : Nat} {z : List Value} (hop : o.op = .alloc t) (ht : TyInfo P t sz bytes z) : ERun P e Hs o (fun u H => ∃ b, u = ptr b 0 ∧ H = row b t z :: Hs) := by
  intro W0 w hs
  obtain ⟨zv, hz, hr⟩ := run_zeroValue' (w := w) ht
  obtain ⟨b, w', a1, a2⟩ := run_newRow (P := P) hs t z
  refine ⟨ptr b 0, w', _, .inl ?_, ⟨b, rfl, rfl⟩, a2⟩
  unfold execOp; rw [hop]
  simp only [Instr.alloc, Sem.run_bind, hr, Result.andThen_ok, newVar, hz, a1, Sem.run_pure]
theorem e_box {t : TypeId} {x : Operand} {v : Value} {vs : List Value} (hop : o.op = .box t x) (hx : ev e x = v) (hv : v.cells.toList = vs) : ERun P e Hs o (fun u H => ∃ b, u = ptr b 0 ∧ H = row b t vs :: Hs) := by
  intro W0 w hs
  obtain ⟨b, w', a1, a2⟩ := run_newRow (P := P) hs t vs
  refine ⟨ptr b 0, w', _, .inl ?_, ⟨b, rfl, rfl⟩, a2⟩
  unfold execOp; rw [hop]; simp only [hx]
  have hv' : v.cells = vs.toArray := by rw [← hv]
  simp only [Instr.box, Sem.run_bind, Result.andThen_ok, newVar, hv', a1, Sem.run_pure]
/-- n copies of a zero value's cells. -/
def zeros (n : Nat) (z : List Value) : List Value := (List.replicate n z).flatten
theorem zeros_length (n : Nat) (z : List Value) : (zeros n z).length = n * z.length := by simp [zeros]
theorem zeros_eq (n : Nat) (z : List Value) : ((Array.range (n * z.length)).map (z.toArray[· % z.length]!)).toList = zeros n z := by
  apply List.ext_getElem?
  intro j
  by_cases hj : j < n * z.length
  · have hz : 0 < z.length := by rcases Nat.eq_zero_or_pos z.length with g | g; · rw [g] at hj; omega
                                 · exact g
    have hm : j % z.length < z.length := Nat.mod_lt _ hz
    have e1 : (zeros n z)[j]? = z[j % z.length]? := by
      clear hz hm
      unfold zeros
      induction n generalizing j with
      | zero => omega
      | succ n ih =>
        rw [List.replicate_succ, List.flatten_cons, List.getElem?_append]
        split
        · rename_i h; rw [Nat.mod_eq_of_lt h]
        · rename_i h
          have h1 : j - z.length < n * z.length := by rw [Nat.add_mul] at hj; omega
          rw [ih (j - z.length) h1]
          congr 1
          rw [Nat.mod_eq_sub_mod (Nat.le_of_not_lt h)]
    rw [e1]
    simp [hj, hm]
  · rw [List.getElem?_eq_none (by simpa using hj), List.getElem?_eq_none (by rw [zeros_length]; omega)]
theorem e_makeSlice {t el : TypeId} {x y : Operand} {sz bytes : Nat} {z : List Value} {n c : Int} (hop : o.op = .makeSlice t x y) (ht : P.underlying t = some (.slice el)) (hi : TyInfo P el sz bytes z) (hzl : z.length = sz)
    (hx : ev e x = .int .i64 n) (hy : ev e y = .int .i64 c) (hb : 0 ≤ n ∧ n ≤ c ∧ c ≤ 9223372036854775807 ∧ bytes * c ≤ 281474976710656) :
    ERun P e Hs o (fun u H => ∃ b, u = slc b 0 n.toNat c.toNat ∧ H = row b el (zeros c.toNat z) :: Hs) := by
  intro W0 w hs
  obtain ⟨i, zv, h1, h2, h3, h4, h5⟩ := hi
  obtain ⟨b, w', a1, a2⟩ := run_newRow (P := P) hs el (zeros c.toNat z)
  refine ⟨slc b 0 n.toNat c.toNat, w', _, .inl ?_, ⟨b, rfl, rfl⟩, a2⟩
  unfold execOp; rw [hop]; simp only [hx, hy]
  have w1 : IntKind.i64.wrap n = n := wrap64_in (by omega) (by omega)
  have w2 : IntKind.i64.wrap c = c := wrap64_in (by omega) (by omega)
  have t1 : (decide (c < 0) || decide ((bytes : Int) * c > 2 ^ 48)) = false := by
    simp only [Bool.or_eq_false_iff, decide_eq_false_iff_not]
    refine ⟨by omega, ?_⟩
    have : (2 : Int) ^ 48 = 281474976710656 := by decide
    omega
  have t2 : (decide (n < 0) || decide (n > c)) = false := by
    simp only [Bool.or_eq_false_iff, decide_eq_false_iff_not]
    exact ⟨by omega, by omega⟩
  simp only [Instr.makeSlice, Sem.run_bind, run_underlying' ht, Result.andThen_ok, asInt, asIntOf, Sem.run_pure, typeInfo, run_program, h1, w1, w2, h3, Bool.or_assoc]
  rw [show (decide (c < 0) || (decide ((bytes : Int) * c > 2 ^ 48) || (decide (n < 0) || decide (n > c)))) = false from by rw [← Bool.or_assoc, t1, t2]; rfl]
  have hsz : sizeOf el = (do pure (← typeInfo el).size) := rfl
  simp only [Bool.false_eq_true, if_false, run_askRoom, Result.andThen_ok, Sem.run_bind, sizeOf, typeInfo, run_program, h1, Sem.run_pure, h2]
  have hzz : zv.cells = z.toArray := by rw [← h5]
  by_cases hz0 : c.toNat * sz = 0
  · rw [if_pos hz0]
    have : zeros c.toNat z = [] := List.eq_nil_of_length_eq_zero (by rw [zeros_length, hzl]; exact hz0)
    rw [this] at a1
    simp only [Sem.run_bind, Sem.run_pure, Result.andThen_ok, hz0]
    have e2 : (Array.range 0).map ((#[] : Array Value)[· % (#[] : Array Value).size]!) = ([] : List Value).toArray := by simp
    rw [e2, a1]
    rfl
  · rw [if_neg hz0]
    simp only [Sem.run_bind, zeroValue, typeInfo, run_program, Result.andThen_ok, h1, Sem.run_pure, h4]
    have e2 : (Array.range (c.toNat * sz)).map (zv.cells[· % zv.cells.size]!) = (zeros c.toNat z).toArray := by
      rw [← zeros_eq, hzl, hzz]
      simp only [Array.toArray_toList, List.size_toArray, hzl]
    rw [e2, a1]
    rfl
end ops
end Go.Sl
