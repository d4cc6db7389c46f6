/-
  Structs and arrays of plain numbers compared; maps whose keys are such. It proves nothing of the program by itself.
-/
import Derived.Test.YtbbgajjonodlfaaGreatGSl9
import Derived.DeepKeys3
set_option linter.unusedVariables false
set_option linter.unusedSimpArgs false
namespace Go.Sl
open Go

/-- These cells are a value of this type: numbers, truths, texts alone. -/
def Plain (P : Program) (t : TypeId) (cs : List Value) : Prop := ∃ D L, P.keyLits D t cs = some L
structure KeyTy (P : Program) (t : TypeId) : Prop where
  key : P.keyTypeAt 9 t = true
  tiled : P.tiled 9 t = true
  agg : (match P.underlying t with | some (.array _ _) | some (.struct _) => true | _ => false) = true
  guard : P.eqGuardType P.depth t = false
section
variable {P : Program} {t : TypeId}
theorem keyLits_size {D : Nat} {cs : List Value} {L : List Lit} (ha : (match P.underlying t with | some (.array _ _) | some (.struct _) => true | _ => false) = true) (h : P.keyLits D t cs = some L) : cs.length = P.cellsOf t := by
  cases D with
  | zero => simp [Program.keyLits] at h
  | succ D =>
    unfold Program.keyLits at h
    split at ha
    · rename_i hu
      simp only [hu] at h
      split at h
      · assumption
      · cases h
    · rename_i hu
      simp only [hu] at h
      split at h
      · rename_i hc; exact hc.1
      · cases h
    · cases ha
theorem formed_agg {cs : List Value} (ha : (match P.underlying t with | some (.array _ _) | some (.struct _) => true | _ => false) = true) (hl : cs.length = P.cellsOf t) : (Value.agg cs.toArray).formed P t = true := by
  unfold Value.formed
  split at ha
  · rename_i hu; simp [hu, hl]
  · rename_i hu; simp [hu, hl]
  · cases ha
theorem toCell_inj {a b : Lit} (ha : a.keyWf) (hb : b.keyWf) (h : a.toCell = b.toCell) : a = b := by
  cases a <;> cases b <;> simp_all [Lit.keyWf, Lit.toCell]
theorem lits_inj : ∀ {L L' : List Lit}, (∀ c ∈ L, c.keyWf) → (∀ c ∈ L', c.keyWf) → L.map Lit.toCell = L'.map Lit.toCell → L = L'
  | [], [], _, _, _ => rfl
  | [], _ :: _, _, _, h => by simp at h
  | _ :: _, [], _, _, h => by simp at h
  | a :: L, b :: L', h1, h2, h => by
    simp only [List.map_cons, List.cons.injEq] at h
    rw [toCell_inj (h1 a (List.mem_cons_self ..)) (h2 b (List.mem_cons_self ..)) h.1, lits_inj (fun c hc => h1 c (List.mem_cons_of_mem _ hc)) (fun c hc => h2 c (List.mem_cons_of_mem _ hc)) h.2]
theorem run_equal_agg (h : KeyTy P t) {xs ys : List Value} (hx : Plain P t xs) (hy : Plain P t ys) (w : World) : ∃ r : Bool, (Op.equal t (.agg xs.toArray) (.agg ys.toArray)).run P w = .ok r w ∧ (r = true ↔ xs = ys) := by
  obtain ⟨D, L, hL⟩ := hx
  obtain ⟨D', L', hL'⟩ := hy
  obtain ⟨r, hr, hiff⟩ := run_equalIn_deep 9991 9 t h.key w D D' (.agg xs.toArray) (.agg ys.toArray) L L' (formed_agg h.agg (keyLits_size h.agg hL)) (formed_agg h.agg (keyLits_size h.agg hL')) (by simpa [Value.cells] using hL) (by simpa [Value.cells] using hL')
  have e : (r = true) ↔ xs = ys := by
    rw [hiff]
    constructor
    · rintro rfl
      rw [cells_of_lits 9 t h.tiled D xs L hL, cells_of_lits 9 t h.tiled D' ys L hL']
    · intro e
      have h1 := cells_of_lits 9 t h.tiled D xs L hL
      have h2 := cells_of_lits 9 t h.tiled D' ys L' hL'
      have h3 : L.map Lit.toCell = L'.map Lit.toCell := by rw [← h1, ← h2, e]
      subst e
      exact lits_inj (keyLits_wf hL) (keyLits_wf hL') h3
  exact ⟨r, hr, e⟩
variable {e : Env} {o : Oper} {x y : Operand} {t' : TypeId}
theorem run_guard_agg (h : KeyTy P t) {op : BinOp} {xs ys : Array Value} (w : World) : (eqGuard op t x y (.agg xs) (.agg ys)).run P w = .ok () w := by
  unfold eqGuard
  cases op <;> simp [program, h.guard, Sem.run]
theorem p_aggeql {xs ys : List Value} {p : Prop} [Decidable p] (hop : o.op = .binOp .eql t x y t') (h : KeyTy P t) (hx : ev e x = .agg xs.toArray) (hy : ev e y = .agg ys.toArray) (px : Plain P t xs) (py : Plain P t ys) (hp : p ↔ xs = ys) : PRun P e o (.bool (decide p)) := by
  intro w; unfold execOp; rw [hop]; simp only [hx, hy]
  obtain ⟨r, hr, hi⟩ := run_equal_agg h px py w
  have hd : r = decide p := by cases r <;> simp_all
  simp only [Sem.run_bind, run_guard_agg h, Result.andThen_ok]
  show ((binOp .eql t (.agg xs.toArray) (.agg ys.toArray)).run P w).andThen _ = _
  unfold binOp
  simp only [Sem.run_bind, hr, Result.andThen_ok, Sem.run_pure, hd]
theorem p_aggneq {xs ys : List Value} {p : Prop} [Decidable p] (hop : o.op = .binOp .neq t x y t') (h : KeyTy P t) (hx : ev e x = .agg xs.toArray) (hy : ev e y = .agg ys.toArray) (px : Plain P t xs) (py : Plain P t ys) (hp : p ↔ xs = ys) : PRun P e o (.bool (decide (¬ p))) := by
  intro w; unfold execOp; rw [hop]; simp only [hx, hy]
  obtain ⟨r, hr, hi⟩ := run_equal_agg h px py w
  have hd : (!r) = decide (¬ p) := by cases r <;> simp_all
  simp only [Sem.run_bind, run_guard_agg h, Result.andThen_ok]
  show ((binOp .neq t (.agg xs.toArray) (.agg ys.toArray)).run P w).andThen _ = _
  unfold binOp
  simp only [Sem.run_bind, hr, Result.andThen_ok, Sem.run_pure, hd]
end
/-! ### Maps -/
def ents : Nat → List (List Value × Value) → List MapEntry
  | _, [] => []
  | i, (k, v) :: r => { key := .agg k.toArray, val := v, born := i } :: ents (i + 1) r
/-- Block b is a map of these keys and values, in the order in which they came. -/
def mp (b : Nat) (kvs : List (List Value × Value)) : Assn := blk b (.map (ents 0 kvs).toArray kvs.length)
/-- The value of a key; the first of that key. -/
noncomputable def look : List (List Value × Value) → List Value → Option (Nat × Value)
  | [], _ => none
  | (k', v) :: r, k => open Classical in if k = k' then some (0, v) else (look r k).map fun x => (x.1 + 1, x.2)
section
variable {P : Program} {e : Env} {o : Oper} {Hs Rs : List Assn} {x y z : Operand} {t kt el : TypeId} {kvs : List (List Value × Value)} {k zs : List Value}
/-- The zero value of a type. -/
def ZeroIs (P : Program) (t : TypeId) (v : Value) : Prop := ∃ i, P.info? t = some i ∧ i.zero = some v
theorem run_zeroIs {v : Value} (h : ZeroIs P t v) (w : World) : (zeroValue t).run P w = .ok v w := by
  obtain ⟨i, h1, h2⟩ := h
  simp [zeroValue, typeInfo, h1, h2]
end
end Go.Sl
namespace Go.Sl
open Go
section
variable {P : Program} {e : Env} {o : Oper} {Hs Rs : List Assn}
theorem run_sliceAny {t el : TypeId} {x : Operand} {lo hi : Option Operand} {q : Option Addr} {n cap sz l h : Nat} (hop : o.op = .slice t x lo hi none) (ht : P.underlying t = some (.slice el)) (hsz : TySize P el sz) (hx : ev e x = .slice q n cap)
    (hl : loOf e lo = some (l : Int)) (hh : hiOf e n hi = some (h : Int)) (hb : l ≤ h ∧ h ≤ cap) : PRun P e o (.slice (if cap = l then q else q.map (·.add (l * sz))) (h - l) (cap - l)) := by
  intro w; unfold execOp; rw [hop]; simp only [hx]
  simp only [Instr.sliceAt, Instr.slice, Sem.run_bind, run_underlying' ht, Result.andThen_ok, Option.map_none]
  have := run_bounds (P := P) (s := true) hl hh (cap := cap) (by omega) (w := w)
  simp only [Result.andThen_ok, Sem.run_pure, this, run_sizeOf' hsz]
  cases q <;> (simp; try (split <;> simp_all))
end
end Go.Sl
namespace Go.Sl
open Go
/-- Where a text is gone through. -/
def iter (b : Nat) (l : List UInt8) (pos : Nat) : Assn := blk b (.stringIter ⟨l.toArray⟩ pos)
/-- The rune at a place, and how wide it is. -/
def dec (l : List UInt8) (i : Nat) : Nat × Nat := Utf8.decode ⟨l.toArray⟩ i
section
variable {P : Program} {e : Env} {o : Oper} {Hs : List Assn} {x : Operand}
theorem e_range {t : TypeId} {l : List UInt8} (hop : o.op = .range t x) (ht : P.underlying t = some .string) (hx : ev e x = strV l) : ERun P e Hs o (fun u H => ∃ b, u = ptr b 0 ∧ H = iter b l 0 :: Hs) := by
  intro W0 w hs
  refine ⟨ptr w.heap.size 0, w.alloc (.stringIter ⟨l.toArray⟩ 0), _, .inl ?_, ⟨w.heap.size, rfl, rfl⟩, hs.alloc _⟩
  unfold execOp; rw [hop]; simp only [hx]
  unfold strV Instr.range
  simp only [Sem.run_bind, run_underlying' ht, Result.andThen_ok, Sem.run_pure]
  rfl
theorem e_next_end {i b pos : Nat} {l : List UInt8} (hop : o.op = .next x true) (hx : ev e x = ptr b 0) (hn : nth Hs i = some (iter b l pos)) (hp : l.length ≤ pos) : ERun P e Hs o (fun u H => u = .tuple #[.bool false] ∧ H = Hs) := by
  intro W0 w hs
  have hb := hs.get hn
  have hget : (getObj b).run P w = .ok (.stringIter ⟨l.toArray⟩ pos) w := by simp [getObj, Sem.run, hb]
  have hsz : (ByteArray.mk l.toArray).size = l.length := by show l.toArray.size = l.length; simp
  have hnp : ¬ pos < l.length := by omega
  refine ⟨_, w, _, .inl ?_, ⟨rfl, rfl⟩, hs⟩
  unfold execOp; rw [hop]; simp only [hx]
  unfold Instr.next ptr
  simp only [Sem.run_bind, hget, Result.andThen_ok, hsz, hnp, if_false, Sem.run_pure]
theorem e_next_go {i b pos : Nat} {l : List UInt8} (hop : o.op = .next x true) (hx : ev e x = ptr b 0) (hn : nth Hs i = some (iter b l pos)) (hp : pos < l.length) :
    ERun P e Hs o (fun u H => u = .tuple #[.bool true, intV pos, .int .i32 ((dec l pos).1 : Int)] ∧ H = setN Hs i (iter b l (pos + (dec l pos).2))) := by
  intro W0 w hs
  have hb := hs.get hn
  have hget : (getObj b).run P w = .ok (.stringIter ⟨l.toArray⟩ pos) w := by simp [getObj, Sem.run, hb]
  have hsz : (ByteArray.mk l.toArray).size = l.length := by show l.toArray.size = l.length; simp
  have hlt : b < w.heap.size := by
    rcases Nat.lt_or_ge b w.heap.size with g | g
    · exact g
    · rw [Array.getElem?_eq_none g] at hb; cases hb
  have hset : (setObj b (.stringIter ⟨l.toArray⟩ (pos + (dec l pos).2))).run P w = .ok () { w with heap := w.heap.setIfInBounds b (.stringIter ⟨l.toArray⟩ (pos + (dec l pos).2)) } := by simp [setObj, Sem.run, hb]
  refine ⟨_, { w with heap := w.heap.setIfInBounds b (.stringIter ⟨l.toArray⟩ (pos + (dec l pos).2)) }, _, .inl ?_, ⟨rfl, rfl⟩, hs.put hn (by first | exact ⟨rfl, rfl, rfl, by simp, Nat.le_refl _⟩ | exact ⟨rfl, rfl, rfl, by simp⟩) ?_ (fun k hk _ => ?_)⟩
  · unfold execOp; rw [hop]; simp only [hx]
    unfold Instr.next ptr
    have hd : Utf8.decode ⟨l.toArray⟩ pos = ((dec l pos).1, (dec l pos).2) := rfl
    simp only [Sem.run_bind, hget, Result.andThen_ok, hsz, hp, if_true, hd, hset, Sem.run_pure]
    rfl
  · simp [Array.getElem?_setIfInBounds, hlt]
  · simp [Array.getElem?_setIfInBounds, Ne.symm hk]
end
theorem get_arr {l : List UInt8} {i : Nat} (hi : i < l.length) : (ByteArray.mk l.toArray).get! i = l[i] := by
  show (l.toArray)[i]! = l[i]
  simp [hi]
theorem dec_low {l : List UInt8} {i : Nat} (hi : i < l.length) (h : l[i].toNat < 128) : dec l i = (l[i].toNat, 1) := by
  unfold dec Utf8.decode
  simp only [Nat.add_zero, get_arr hi, h, if_true]
/-- A rune that is no letter of one byte: big, and all bytes behind its first one are big. -/
theorem dec_high {l : List UInt8} {i : Nat} (hi : i < l.length) (h : ¬ l[i].toNat < 128) : 128 ≤ (dec l i).1 ∧ (dec l i).1 < 1114112 ∧ 1 ≤ (dec l i).2 ∧ i + (dec l i).2 ≤ l.length ∧ ∀ k (hk : k < l.length), i < k → k < i + (dec l i).2 → 128 ≤ l[k].toNat := by
  have hsz : (ByteArray.mk l.toArray).size = l.length := by show l.toArray.size = l.length; simp
  have hc : ∀ k, (decide (i + k < l.length) && ((ByteArray.mk l.toArray).get! (i + k)).toNat / 64 == 2) = true → ∃ hk : i + k < l.length, 128 ≤ l[i + k].toNat := fun k hh => by
    simp only [Bool.and_eq_true, decide_eq_true_eq, beq_iff_eq] at hh
    obtain ⟨h1, h2⟩ := hh
    rw [get_arr h1] at h2
    exact ⟨h1, by omega⟩
  have one : 128 ≤ (Utf8.runeError, 1).1 ∧ (Utf8.runeError, 1).1 < 1114112 ∧ 1 ≤ (Utf8.runeError, 1).2 ∧ i + (Utf8.runeError, 1).2 ≤ l.length ∧ ∀ k (hk : k < l.length), i < k → k < i + (Utf8.runeError, 1).2 → 128 ≤ l[k].toNat :=
    ⟨by decide, by decide, by decide, by show i + 1 ≤ _; omega, fun k hk g1 g2 => by have g2 : k < i + 1 := g2; omega⟩
  have hb : ∀ n : Nat, (UInt8.toNat l[i]) = n → n < 256 := fun n g => by rw [← g]; exact l[i].toNat_lt
  unfold dec Utf8.decode
  simp only [Nat.add_zero, get_arr hi, h, if_false, hsz]
  split
  · rename_i hh
    simp only [Bool.and_eq_true] at hh
    obtain ⟨k1, q1⟩ := hc 1 (by simpa using hh.2)
    split
    · rename_i hv
      refine ⟨hv, ?_, Nat.succ_le_succ (Nat.zero_le _), by show i + 2 ≤ _; omega, fun k hk g1 g2 => ?_⟩
      · have := Nat.mod_lt (UInt8.toNat l[i]) (show 0 < 32 by omega)
        have := Nat.mod_lt ((ByteArray.mk l.toArray).get! (i + 1)).toNat (show 0 < 64 by omega)
        show _ * 64 + _ < _
        omega
      · have g2 : k < i + 2 := g2
        obtain rfl : k = i + 1 := by omega
        exact q1
    · exact one
  · split
    · rename_i hh
      simp only [Bool.and_eq_true] at hh
      obtain ⟨k1, q1⟩ := hc 1 (by simpa using hh.1.2)
      obtain ⟨k2, q2⟩ := hc 2 (by simpa using hh.2)
      split
      · rename_i hv
        simp only [Bool.and_eq_true, decide_eq_true_eq] at hv
        refine ⟨by show 128 ≤ _ * 4096 + _ * 64 + _; omega, ?_, Nat.succ_le_succ (Nat.zero_le _), by show i + 3 ≤ _; omega, fun k hk g1 g2 => ?_⟩
        · have := Nat.mod_lt (UInt8.toNat l[i]) (show 0 < 16 by omega)
          have := Nat.mod_lt ((ByteArray.mk l.toArray).get! (i + 1)).toNat (show 0 < 64 by omega)
          have := Nat.mod_lt ((ByteArray.mk l.toArray).get! (i + 2)).toNat (show 0 < 64 by omega)
          show _ * 4096 + _ * 64 + _ < _
          omega
        · have g2 : k < i + 3 := g2
          by_cases e1 : k = i + 1
          · subst e1; exact q1
          · obtain rfl : k = i + 2 := by omega
            exact q2
      · exact one
    · split
      · rename_i hh
        simp only [Bool.and_eq_true] at hh
        obtain ⟨k1, q1⟩ := hc 1 (by simpa using hh.1.1.2)
        obtain ⟨k2, q2⟩ := hc 2 (by simpa using hh.1.2)
        obtain ⟨k3, q3⟩ := hc 3 (by simpa using hh.2)
        split
        · rename_i hv
          simp only [Bool.and_eq_true, decide_eq_true_eq] at hv
          refine ⟨by show 128 ≤ _ * 262144 + _ * 4096 + _ * 64 + _; omega, ?_, Nat.succ_le_succ (Nat.zero_le _), by show i + 4 ≤ _; omega, fun k hk g1 g2 => ?_⟩
          · have hv2 := hv.2
            unfold Utf8.valid at hv2
            simp only [Bool.or_eq_true, Bool.and_eq_true, decide_eq_true_eq] at hv2
            show _ * 262144 + _ * 4096 + _ * 64 + _ < _
            omega
          · have g2 : k < i + 4 := g2
            by_cases e1 : k = i + 1
            · subst e1; exact q1
            · by_cases e2 : k = i + 2
              · subst e2; exact q2
              · obtain rfl : k = i + 3 := by omega
                exact q3
        · exact one
      · exact one
end Go.Sl
namespace Go.Sl
open Go
section
variable {P : Program} {e : Env} {o : Oper} {x y : Operand}
end
end Go.Sl
namespace Go.Sl
open Go
section
variable {P : Program} {N : Nat} {Q : Next1} {e : Env} {Hs : List Assn} {ops : Array Oper} {i d : Nat} {l : List Nat} {o : Oper} {v : Value} {Bs : List Assn} {z : Nat} {ld : List (Nat × Kd3)} {x c y : Operand}
theorem RN.p (hi : nth ops.toList i = some o) (hq : PRun P e o v) (h : RN P N ops Q l (upd e d v) Hs) (hw : wantE ops.toList e o = true := by exact rfl) (hdst : o.dst = some d := by exact rfl) (hb : Nat.blt d N = true := by exact rfl) : RN P N ops Q (i :: l) e Hs := RN.qq hi hw hdst hb hq.q h
theorem RN.u (hi : nth ops.toList i = some o) (hq : QRun P e Hs o v) (h : RN P N ops Q l (upd e d v) Hs) (hw : wantE ops.toList e o = true := by exact rfl) (hdst : o.dst = some d := by exact rfl) (hb : Nat.blt d N = true := by exact rfl) : RN P N ops Q (i :: l) e Hs := RN.qq hi hw hdst hb hq h
theorem RN.a (hi : nth ops.toList i = some o) (h : RN P N ops Q l (upd e d v) Hs) (hop : o.op = .assign x := by exact rfl) (hv : ev e x = v := by conv => lhs; whnf) (hw : wantE ops.toList e o = true := by exact rfl) (hdst : o.dst = some d := by exact rfl) (hb : Nat.blt d N = true := by exact rfl) : RN P N ops Q (i :: l) e Hs := RN.qq hi hw hdst hb (p_assign hop hv).q h
theorem RN.m (hi : nth ops.toList i = some o) (h : RN P N ops Q l (upd e d v) Hs) (hop : o.op = .move x := by exact rfl) (hv : ev e x = v := by conv => lhs; whnf) (hw : wantE ops.toList e o = true := by exact rfl) (hdst : o.dst = some d := by exact rfl) (hb : Nat.blt d N = true := by exact rfl) : RN P N ops Q (i :: l) e Hs := RN.qq hi hw hdst hb (p_move hop hv).q h
theorem RN.pt (hi : nth ops.toList i = some o) (h : RN P N ops Q l (upd e d v) Hs) (hop : o.op = .pick c x y := by exact rfl) (hc : ev e c = .bool true := by exact rfl) (hv : ev e x = v := by conv => lhs; whnf) (hw : wantE ops.toList e o = true := by exact rfl) (hdst : o.dst = some d := by exact rfl) (hb : Nat.blt d N = true := by exact rfl) : RN P N ops Q (i :: l) e Hs := RN.qq hi hw hdst hb (p_pick_t hop hc hv).q h
theorem RN.pf (hi : nth ops.toList i = some o) (h : RN P N ops Q l (upd e d v) Hs) (hop : o.op = .pick c x y := by exact rfl) (hc : ev e c = .bool false := by exact rfl) (hv : ev e y = v := by conv => lhs; whnf) (hw : wantE ops.toList e o = true := by exact rfl) (hdst : o.dst = some d := by exact rfl) (hb : Nat.blt d N = true := by exact rfl) : RN P N ops Q (i :: l) e Hs := RN.qq hi hw hdst hb (p_pick_f hop hc hv).q h
theorem RN.no0 (hi : nth ops.toList i = some o) (h : RN P N ops Q l (upd e d undef) Hs) (hw : wantE ops.toList e o = false := by exact rfl) (hdst : o.dst = some d := by exact rfl) (hb : Nat.blt d N = true := by exact rfl) : RN P N ops Q (i :: l) e Hs := RN.O hi hw hdst hb h
theorem RD.n (hi : nth ops.toList i = some o) (hq : PRun P e o v) (h : RD P N ops Bs z Q ld (upd e d v) Hs) (hw : wantE ops.toList e o = true := by exact rfl) (hdst : o.dst = some d := by exact rfl) (hb : Nat.blt d N = true := by exact rfl) : RD P N ops Bs z Q ((i, .pure) :: ld) e Hs := RD.pp hi hw hdst hb hq h
end
end Go.Sl
