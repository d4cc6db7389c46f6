/-
  Structs and arrays of plain numbers compared; maps whose keys are such. It proves nothing of the program by itself.
-/
import Derived.Test.YtlbebaipmgjdbaaGreatGSl9
import Derived.DeepKeys3
set_option linter.unusedVariables false
set_option linter.unusedSimpArgs false
namespace Go.Sl
open Go

/-- These cells are a value of this type: numbers, truths, texts alone. -/
def Plain (P : Program) (t : TypeId) (cs : List Value) : Prop := ∃ D L, P.keyLits D t cs = some L
structure KeyTy (P : Program) (t : TypeId) : Prop where
  key : P.keyTypeAt 9 t = true
  tiled : P.tiled 9 t = true
  agg : (match P.underlying t with | some (.array _ _) | some (.struct _) => true | _ => false) = true
  guard : P.eqGuardType P.depth t = false
section
variable {P : Program} {t : TypeId}
theorem keyLits_size {D : Nat} {cs : List Value} {L : List Lit} (ha : (match P.underlying t with | some (.array _ _) | some (.struct _) => true | _ => false) = true) (h : P.keyLits D t cs = some L) : cs.length = P.cellsOf t := by
  cases D with
  | zero => simp [Program.keyLits] at h
  | succ D =>
    unfold Program.keyLits at h
    split at ha
    · rename_i hu
      simp only [hu] at h
      split at h
      · assumption
      · cases h
    · rename_i hu
      simp only [hu] at h
      split at h
      · rename_i hc; exact hc.1
      · cases h
    · cases ha
theorem formed_agg {cs : List Value} (ha : (match P.underlying t with | some (.array _ _) | some (.struct _) => true | _ => false) = true) (hl : cs.length = P.cellsOf t) : (Value.agg cs.toArray).formed P t = true := by
  unfold Value.formed
  split at ha
  · rename_i hu; simp [hu, hl]
  · rename_i hu; simp [hu, hl]
  · cases ha
theorem toCell_inj {a b : Lit} (ha : a.keyWf) (hb : b.keyWf) (h : a.toCell = b.toCell) : a = b := by
  cases a <;> cases b <;> simp_all [Lit.keyWf, Lit.toCell]
theorem lits_inj : ∀ {L L' : List Lit}, (∀ c ∈ L, c.keyWf) → (∀ c ∈ L', c.keyWf) → L.map Lit.toCell = L'.map Lit.toCell → L = L'
  | [], [], _, _, _ => rfl
  | [], _ :: _, _, _, h => by simp at h
  | _ :: _, [], _, _, h => by simp at h
  | a :: L, b :: L', h1, h2, h => by
    simp only [List.map_cons, List.cons.injEq] at h
    rw [toCell_inj (h1 a (List.mem_cons_self ..)) (h2 b (List.mem_cons_self ..)) h.1, lits_inj (fun c hc => h1 c (List.mem_cons_of_mem _ hc)) (fun c hc => h2 c (List.mem_cons_of_mem _ hc)) h.2]
theorem run_equal_agg (h : KeyTy P t) {xs ys : List Value} (hx : Plain P t xs) (hy : Plain P t ys) (w : World) : ∃ r : Bool, (Op.equal t (.agg xs.toArray) (.agg ys.toArray)).run P w = .ok r w ∧ (r = true ↔ xs = ys) := by
  obtain ⟨D, L, hL⟩ := hx
  obtain ⟨D', L', hL'⟩ := hy
  obtain ⟨r, hr, hiff⟩ := run_equalIn_deep 9991 9 t h.key w D D' (.agg xs.toArray) (.agg ys.toArray) L L' (formed_agg h.agg (keyLits_size h.agg hL)) (formed_agg h.agg (keyLits_size h.agg hL')) (by simpa [Value.cells] using hL) (by simpa [Value.cells] using hL')
  have e : (r = true) ↔ xs = ys := by
    rw [hiff]
    constructor
    · rintro rfl
      rw [cells_of_lits 9 t h.tiled D xs L hL, cells_of_lits 9 t h.tiled D' ys L hL']
    · intro e
      have h1 := cells_of_lits 9 t h.tiled D xs L hL
      have h2 := cells_of_lits 9 t h.tiled D' ys L' hL'
      have h3 : L.map Lit.toCell = L'.map Lit.toCell := by rw [← h1, ← h2, e]
      subst e
      exact lits_inj (keyLits_wf hL) (keyLits_wf hL') h3
  exact ⟨r, hr, e⟩
variable {e : Env} {o : Oper} {x y : Operand} {t' : TypeId}
theorem run_guard_agg (h : KeyTy P t) {op : BinOp} {xs ys : Array Value} (w : World) : (eqGuard op t x y (.agg xs) (.agg ys)).run P w = .ok () w := by
  unfold eqGuard
  cases op <;> simp [program, h.guard, Sem.run]
theorem p_aggeql {xs ys : List Value} {p : Prop} [Decidable p] (hop : o.op = .binOp .eql t x y t') (h : KeyTy P t) (hx : ev e x = .agg xs.toArray) (hy : ev e y = .agg ys.toArray) (px : Plain P t xs) (py : Plain P t ys) (hp : p ↔ xs = ys) : PRun P e o (.bool (decide p)) := by
  intro w; unfold execOp; rw [hop]; simp only [hx, hy]
  obtain ⟨r, hr, hi⟩ := run_equal_agg h px py w
  have hd : r = decide p := by cases r <;> simp_all
  simp only [Sem.run_bind, run_guard_agg h, Result.andThen_ok]
  show ((binOp .eql t (.agg xs.toArray) (.agg ys.toArray)).run P w).andThen _ = _
  unfold binOp
  simp only [Sem.run_bind, hr, Result.andThen_ok, Sem.run_pure, hd]
theorem p_aggneq {xs ys : List Value} {p : Prop} [Decidable p] (hop : o.op = .binOp .neq t x y t') (h : KeyTy P t) (hx : ev e x = .agg xs.toArray) (hy : ev e y = .agg ys.toArray) (px : Plain P t xs) (py : Plain P t ys) (hp : p ↔ xs = ys) : PRun P e o (.bool (decide (¬ p))) := by
  intro w; unfold execOp; rw [hop]; simp only [hx, hy]
  obtain ⟨r, hr, hi⟩ := run_equal_agg h px py w
  have hd : (!r) = decide (¬ p) := by cases r <;> simp_all
  simp only [Sem.run_bind, run_guard_agg h, Result.andThen_ok]
  show ((binOp .neq t (.agg xs.toArray) (.agg ys.toArray)).run P w).andThen _ = _
  unfold binOp
  simp only [Sem.run_bind, hr, Result.andThen_ok, Sem.run_pure, hd]
end
/-! ### Maps -/
def ents : Nat → List (List Value × Value) → List MapEntry
  | _, [] => []
  | i, (k, v) :: r => { key := .agg k.toArray, val := v, born := i } :: ents (i + 1) r
/-- Block b is a map of these keys and values, in the order in which they came. -/
def mp (b : Nat) (kvs : List (List Value × Value)) : Assn := blk b (.map (ents 0 kvs).toArray kvs.length)
/-- The value of a key; the first of that key. -/
noncomputable def look : List (List Value × Value) → List Value → Option (Nat × Value)
  | [], _ => none
  | (k', v) :: r, k => open Classical in if k = k' then some (0, v) else (look r k).map fun x => (x.1 + 1, x.2)
section
variable {P : Program} {e : Env} {o : Oper} {Hs Rs : List Assn} {x y z : Operand} {t kt el : TypeId} {kvs : List (List Value × Value)} {k zs : List Value}
/-- The zero value of a type. -/
def ZeroIs (P : Program) (t : TypeId) (v : Value) : Prop := ∃ i, P.info? t = some i ∧ i.zero = some v
theorem run_zeroIs {v : Value} (h : ZeroIs P t v) (w : World) : (zeroValue t).run P w = .ok v w := by
  obtain ⟨i, h1, h2⟩ := h
  simp [zeroValue, typeInfo, h1, h2]
end
end Go.Sl
namespace Go.Sl
open Go
section
variable {P : Program} {e : Env} {o : Oper} {Hs Rs : List Assn}
theorem run_sliceAny {t el : TypeId} {x : Operand} {lo hi : Option Operand} {q : Option Addr} {n cap sz l h : Nat} (hop : o.op = .slice t x lo hi none) (ht : P.underlying t = some (.slice el)) (hsz : TySize P el sz) (hx : ev e x = .slice q n cap)
    (hl : loOf e lo = some (l : Int)) (hh : hiOf e n hi = some (h : Int)) (hb : l ≤ h ∧ h ≤ cap) : PRun P e o (.slice (if cap = l then q else q.map (·.add (l * sz))) (h - l) (cap - l)) := by
  intro w; unfold execOp; rw [hop]; simp only [hx]
  simp only [Instr.sliceAt, Instr.slice, Sem.run_bind, run_underlying' ht, Result.andThen_ok, Option.map_none]
  have := run_bounds (P := P) (s := true) hl hh (cap := cap) (by omega) (w := w)
  simp only [Result.andThen_ok, Sem.run_pure, this, run_sizeOf' hsz]
  cases q <;> (simp; try (split <;> simp_all))
end
end Go.Sl
namespace Go.Sl
open Go
section
variable {P : Program} {e : Env} {o : Oper} {Hs : List Assn} {x : Operand}
end
end Go.Sl
namespace Go.Sl
open Go
section
variable {P : Program} {e : Env} {o : Oper} {x y : Operand}
theorem p_bneq {t t' : TypeId} {a b : Bool} (hop : o.op = .binOp .neq t x y t') (hx : ev e x = .bool a) (hy : ev e y = .bool b) (ht : P.underlying t = some .bool) : PRun P e o (.bool (!(a == b))) := by
  intro w; unfold execOp; rw [hop]; simp only [hx, hy]
  have : (Op.equal t (.bool a) (.bool b)).run P w = .ok (a == b) w := by
    have key : ∀ d, (Op.equalIn (d + 1) t (.bool a) (.bool b)).run P w = .ok (a == b) w := by
      intro d
      simp [Op.equalIn, run_underlying' ht]
    exact key 9999
  have hb : (binOp .neq t (.bool a) (.bool b)).run P w = .ok (.bool (!(a == b))) w := by
    unfold binOp
    simp only [Sem.run_bind, this, Result.andThen_ok, Sem.run_pure]
  simp only [eqGuard, Sem.run_bind]
  show ((binOp .neq t (.bool a) (.bool b)).run P w).andThen _ = _
  rw [hb]
  rfl
end
end Go.Sl
namespace Go.Sl
open Go
section
variable {P : Program} {N : Nat} {Q : Next1} {e : Env} {Hs : List Assn} {ops : Array Oper} {i d : Nat} {l : List Nat} {o : Oper} {v : Value} {Bs : List Assn} {z : Nat} {ld : List (Nat × Kd3)} {x c y : Operand}
theorem RN.p (hi : nth ops.toList i = some o) (hq : PRun P e o v) (h : RN P N ops Q l (upd e d v) Hs) (hw : wantE ops.toList e o = true := by exact rfl) (hdst : o.dst = some d := by exact rfl) (hb : Nat.blt d N = true := by exact rfl) : RN P N ops Q (i :: l) e Hs := RN.qq hi hw hdst hb hq.q h
theorem RN.u (hi : nth ops.toList i = some o) (hq : QRun P e Hs o v) (h : RN P N ops Q l (upd e d v) Hs) (hw : wantE ops.toList e o = true := by exact rfl) (hdst : o.dst = some d := by exact rfl) (hb : Nat.blt d N = true := by exact rfl) : RN P N ops Q (i :: l) e Hs := RN.qq hi hw hdst hb hq h
theorem RN.a (hi : nth ops.toList i = some o) (h : RN P N ops Q l (upd e d v) Hs) (hop : o.op = .assign x := by exact rfl) (hv : ev e x = v := by conv => lhs; whnf) (hw : wantE ops.toList e o = true := by exact rfl) (hdst : o.dst = some d := by exact rfl) (hb : Nat.blt d N = true := by exact rfl) : RN P N ops Q (i :: l) e Hs := RN.qq hi hw hdst hb (p_assign hop hv).q h
theorem RN.m (hi : nth ops.toList i = some o) (h : RN P N ops Q l (upd e d v) Hs) (hop : o.op = .move x := by exact rfl) (hv : ev e x = v := by conv => lhs; whnf) (hw : wantE ops.toList e o = true := by exact rfl) (hdst : o.dst = some d := by exact rfl) (hb : Nat.blt d N = true := by exact rfl) : RN P N ops Q (i :: l) e Hs := RN.qq hi hw hdst hb (p_move hop hv).q h
theorem RN.pt (hi : nth ops.toList i = some o) (h : RN P N ops Q l (upd e d v) Hs) (hop : o.op = .pick c x y := by exact rfl) (hc : ev e c = .bool true := by exact rfl) (hv : ev e x = v := by conv => lhs; whnf) (hw : wantE ops.toList e o = true := by exact rfl) (hdst : o.dst = some d := by exact rfl) (hb : Nat.blt d N = true := by exact rfl) : RN P N ops Q (i :: l) e Hs := RN.qq hi hw hdst hb (p_pick_t hop hc hv).q h
theorem RN.pf (hi : nth ops.toList i = some o) (h : RN P N ops Q l (upd e d v) Hs) (hop : o.op = .pick c x y := by exact rfl) (hc : ev e c = .bool false := by exact rfl) (hv : ev e y = v := by conv => lhs; whnf) (hw : wantE ops.toList e o = true := by exact rfl) (hdst : o.dst = some d := by exact rfl) (hb : Nat.blt d N = true := by exact rfl) : RN P N ops Q (i :: l) e Hs := RN.qq hi hw hdst hb (p_pick_f hop hc hv).q h
theorem RN.no0 (hi : nth ops.toList i = some o) (h : RN P N ops Q l (upd e d undef) Hs) (hw : wantE ops.toList e o = false := by exact rfl) (hdst : o.dst = some d := by exact rfl) (hb : Nat.blt d N = true := by exact rfl) : RN P N ops Q (i :: l) e Hs := RN.O hi hw hdst hb h
theorem RD.n (hi : nth ops.toList i = some o) (hq : PRun P e o v) (h : RD P N ops Bs z Q ld (upd e d v) Hs) (hw : wantE ops.toList e o = true := by exact rfl) (hdst : o.dst = some d := by exact rfl) (hb : Nat.blt d N = true := by exact rfl) : RD P N ops Bs z Q ((i, .pure) :: ld) e Hs := RD.pp hi hw hdst hb hq h
end
end Go.Sl
