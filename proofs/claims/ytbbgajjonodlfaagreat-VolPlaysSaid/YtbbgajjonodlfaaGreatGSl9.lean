/-
  More forms of the same laws; slices with a third bound; a call that the model answers itself. It proves nothing of the program by itself.
-/
import Derived.Test.YtbbgajjonodlfaaGreatGSl8
import Derived.Lib.MakeNoZero
import Derived.WalkKit
import Derived.ProofKit
import Derived.OpenShut
set_option linter.unusedVariables false
set_option linter.unusedSimpArgs false
namespace Go.Sl
open Go
section nats
variable {P : Program} {e : Env} {o : Oper} {Hs : List Assn}
theorem p_indexAddr1N {t el : TypeId} {x ix : Operand} {b off n cap i : Nat} {k : IntKind} (hop : o.op = .indexAddr t x ix) (ht : P.underlying t = some (.slice el)) (hsz : TySize P el 1)
    (hx : ev e x = slc b off n cap) (hi : ev e ix = .int k (i : Int)) (hb : i < n) : PRun P e o (ptr b (off + i)) := by
  have := p_indexAddrN (P := P) hop ht hsz hx hi hb
  simpa using this
theorem p_indexAddr1 {t el : TypeId} {x ix : Operand} {b off n cap : Nat} {i : Int} {k : IntKind} (hop : o.op = .indexAddr t x ix) (ht : P.underlying t = some (.slice el)) (hsz : TySize P el 1)
    (hx : ev e x = slc b off n cap) (hi : ev e ix = .int k i) (hb : 0 ≤ i ∧ i < n) : PRun P e o (ptr b (off + i.toNat)) := by
  have := p_indexAddr (P := P) hop ht hsz hx hi hb
  simpa using this
theorem p_slice_s_lo {t : TypeId} {x y : Operand} {s : List UInt8} {l : Nat} {k : IntKind} (hop : o.op = .slice t x (some y) none none) (ht : P.underlying t = some .string) (hx : ev e x = strV s)
    (hl : ev e y = .int k (l : Int)) (hb : l ≤ s.length) : PRun P e o (strV (s.drop l)) := by
  have := p_sliceN_s (P := P) (l := l) (h := s.length) hop ht hx (by simp [loOf, hl]) rfl ⟨hb, Nat.le_refl _⟩
  simpa using this
theorem p_slice_s_hi {t : TypeId} {x y : Operand} {s : List UInt8} {h : Nat} {k : IntKind} (hop : o.op = .slice t x none (some y) none) (ht : P.underlying t = some .string) (hx : ev e x = strV s)
    (hl : ev e y = .int k (h : Int)) (hb : h ≤ s.length) : PRun P e o (strV (s.take h)) := by
  have := p_sliceN_s (P := P) (l := 0) (h := h) hop ht hx rfl (by simp [hiOf, hl]) ⟨Nat.zero_le _, hb⟩
  simpa using this
theorem p_slice_lo {t el : TypeId} {x y : Operand} {b off n cap sz l : Nat} {k : IntKind} (hop : o.op = .slice t x (some y) none none) (ht : P.underlying t = some (.slice el)) (hsz : TySize P el sz) (hx : ev e x = slc b off n cap)
    (hl : ev e y = .int k (l : Int)) (hb : l ≤ n ∧ l < cap ∧ n ≤ cap) : PRun P e o (slc b (off + l * sz) (n - l) (cap - l)) := by
  have := p_sliceN (P := P) (l := l) (h := n) hop ht hsz hx (by simp [loOf, hl]) rfl ⟨hb.1, hb.2.2⟩
  rwa [if_neg (by omega)] at this
theorem p_slice_hi {t el : TypeId} {x y : Operand} {b off n cap sz h : Nat} {k : IntKind} (hop : o.op = .slice t x none (some y) none) (ht : P.underlying t = some (.slice el)) (hsz : TySize P el sz) (hx : ev e x = slc b off n cap)
    (hl : ev e y = .int k (h : Int)) (hb : h ≤ cap) : PRun P e o (slc b off h cap) := by
  have := p_sliceN (P := P) (l := 0) (h := h) hop ht hsz hx rfl (by simp [hiOf, hl]) ⟨Nat.zero_le _, hb⟩
  simpa using this
theorem p_slice_lh {t el : TypeId} {x y u : Operand} {b off n cap sz l h : Nat} {k k' : IntKind} (hop : o.op = .slice t x (some y) (some u) none) (ht : P.underlying t = some (.slice el)) (hsz : TySize P el sz) (hx : ev e x = slc b off n cap)
    (hl : ev e y = .int k (l : Int)) (hh : ev e u = .int k' (h : Int)) (hb : l ≤ h ∧ h ≤ cap ∧ l < cap) : PRun P e o (slc b (off + l * sz) (h - l) (cap - l)) := by
  have := p_sliceN (P := P) (l := l) (h := h) hop ht hsz hx (by simp [loOf, hl]) (by simp [hiOf, hh]) ⟨hb.1, hb.2.1⟩
  rwa [if_neg (by omega)] at this
/-- x[:h:m]. -/
theorem p_slice3 {t el : TypeId} {x u m : Operand} {b off n cap sz h mx : Nat} {k k' : IntKind} (hop : o.op = .slice t x none (some u) (some m)) (ht : P.underlying t = some (.slice el)) (hsz : TySize P el sz) (hx : ev e x = slc b off n cap)
    (hh : ev e u = .int k (h : Int)) (hm : ev e m = .int k' (mx : Int)) (hb : h ≤ mx ∧ mx ≤ cap) : PRun P e o (slc b off h mx) := by
  intro w; unfold execOp; rw [hop]; simp only [hx]
  have a1 := fun c => run_bound (P := P) (w := w) (k := k') (c := c) (show 0 ≤ (mx : Int) ∧ (mx : Int) ≤ ((cap : Nat) : Int) from ⟨by omega, by omega⟩)
  have a2 := fun c => run_bound (P := P) (w := w) (k := k) (c := c) (show 0 ≤ (h : Int) ∧ (h : Int) ≤ ((mx : Nat) : Int) from ⟨by omega, by omega⟩)
  simp only [Int.toNat_natCast] at a1 a2
  simp [Instr.sliceAt, Instr.slice, run_underlying' ht, Instr.sliceBounds, hh, hm, a1, a2, run_sizeOf' hsz]
  intro _
  simp [Addr.add]
/-- A call that the model answers itself, by some value and world. -/
theorem e_extern {f : FuncId} {fn : Func} {xs : Array Operand} {ats : Array TypeId} {args : List Value} {ex : Array Value → Sem Value} {K : Value → List Assn → Prop} (hop : o.op = .call { callee := .value (.func f), args := xs, argTypes := ats })
    (hf : P.funcs[f]? = some fn) (hname : (fn.name == "runtime.NumGoroutine") = false) (hb : fn.body.isNone = true) (hn : Extern.findNext fn = none) (he : Extern.find fn = some ex) (ha : xs.toList.map (ev e) = args)
    (h : ∀ W0 w, Sat W0 (sep Hs) w → ∃ v w' Hs', (ex args.toArray).run P w = .ok v w' ∧ K v Hs' ∧ Sat W0 (sep Hs') w') : ERun P e Hs o K := by
  intro W0 w hs
  obtain ⟨v, w', H', h1, h2, h3⟩ := h W0 w hs
  refine ⟨v, w', H', .inl ?_, h2, h3⟩
  unfold execOp; rw [hop]
  have hxs : xs.map (ev e) = args.toArray := by rw [← ha]; apply Array.ext'; simp
  simp only [resolve, ev, Deferred.ofValue, Sem.run_bind, Sem.run_pure, Result.andThen_ok, invoke, hxs, callFunc, run_program, hf, hname, Bool.false_eq_true, if_false, hb, if_true, hn, he]
  simp [h1]
theorem e_makeNoZero {f : FuncId} {fn : Func} {xs : Array Operand} {ats : Array TypeId} {n : Nat} {t el : TypeId} {ps : Array TypeId} (hop : o.op = .call { callee := .value (.func f), args := xs, argTypes := ats })
    (hf : P.funcs[f]? = some fn) (hname : (fn.name == "runtime.NumGoroutine") = false) (hb : fn.body.isNone = true) (hn : Extern.findNext fn = none) (he : Extern.find fn = some (Extern.BytealgMakeNoZero.makeNoZero ps #[t])) (ha : xs.toList.map (ev e) = [.int .i64 (n : Int)])
    (ht : P.underlying t = some (.slice el)) (hle : n ≤ 281474976710656) : ERun P e Hs o (fun v H => ∃ b cs, n ≤ cs.length ∧ cs.length ≤ 9223372036854775807 ∧ v = slc b 0 n cs.length ∧ H = row b el cs :: Hs) := by
  refine e_extern hop hf hname hb hn he ha fun W0 w hs => ?_
  obtain ⟨cs, h1, h2, h3⟩ := Go.Lib.run_makeNoZero w ps t el ht n hle
  refine ⟨_, _, _, h1, ⟨w.heap.size, cs.toList, by simpa using h2, by have := h3 (by unfold maxLen; omega); unfold maxLen at this; simpa using this, by simp, rfl⟩, ?_⟩
  have s1 := hs.drew.drew.newRow el cs.toList
  simpa using s1
end nats

theorem Src.ent {P : Program} {Hs Hs' : List Assn} {v : Value} {m sz : Nat} {ys : List Value} (h : Ent (sep Hs) (sep Hs')) (k : Src P Hs' v m sz ys) : Src P Hs v m sz ys :=
  ⟨k.1, fun W0 w hs => k.2.1 W0 w (hs.mono h), fun W0 w j hs hj => k.2.2 W0 w j (hs.mono h) hj⟩
theorem QRun.ent {P : Program} {e : Env} {Hs Hs' : List Assn} {o : Oper} {v : Value} (h : Ent (sep Hs) (sep Hs')) (k : QRun P e Hs' o v) : QRun P e Hs o v := fun W0 w hs => k W0 w (hs.mono h)
/-- Inside the i-th, which is a list itself, the j-th. -/
theorem Ent.inside {Hs L : List Assn} {i j : Nat} {A : Assn} (hi : nth Hs i = some (sep L)) (hj : nth L j = some A) : Ent (sep Hs) (sep (A :: sep (delN L j) :: delN Hs i)) :=
  (Ent.perm (perm_nth hi)).trans (Ent.bor hj)
theorem lay_take {cs A B : List Value} {a : Nat} (h : cs.take a = A) (hA : A.length = a) (hl : a + B.length ≤ cs.length) : (lay cs a B).take (a + B.length) = A ++ B := by
  rw [lay_eq _ _ _ hl, h, ← hA, ← List.length_append, List.take_left]

/-! numbers that are casts stay casts -/
section casts
variable {P : Program} {e : Env} {o : Oper} {t t' : TypeId} {x y : Operand} {a b : Nat}
theorem p_addN (hop : o.op = .binOp .add t x y t') (hx : ev e x = .int .i64 (a : Int)) (hy : ev e y = .int .i64 (b : Int)) (h : a + b ≤ 9223372036854775807) : PRun P e o (.int .i64 ((a + b : Nat) : Int)) := by
  have := p_add (P := P) hop hx hy ⟨by omega, by omega⟩
  rwa [← Int.natCast_add] at this
theorem p_subN (hop : o.op = .binOp .sub t x y t') (hx : ev e x = .int .i64 (a : Int)) (hy : ev e y = .int .i64 (b : Int)) (h : b ≤ a ∧ a ≤ 9223372036854775807) : PRun P e o (.int .i64 ((a - b : Nat) : Int)) := by
  have := p_sub (P := P) hop hx hy ⟨by omega, by omega⟩
  rwa [show (a : Int) - b = ((a - b : Nat) : Int) from by omega] at this
theorem p_mulN (hop : o.op = .binOp .mul t x y t') (hx : ev e x = .int .i64 (a : Int)) (hy : ev e y = .int .i64 (b : Int)) (h : a * b ≤ 9223372036854775807) : PRun P e o (.int .i64 ((a * b : Nat) : Int)) := by
  have := p_mul (P := P) hop hx hy ⟨by rw [← Int.natCast_mul]; omega, by rw [← Int.natCast_mul]; omega⟩
  rwa [← Int.natCast_mul] at this
theorem p_quoN (hop : o.op = .binOp .quo t x y t') (hx : ev e x = .int .i64 (a : Int)) (hy : ev e y = .int .i64 (b : Int)) (h : a ≤ 9223372036854775807 ∧ 0 < b) : PRun P e o (.int .i64 ((a / b : Nat) : Int)) := by
  have := p_quo (P := P) hop hx hy ⟨by omega, by omega, by omega⟩
  rwa [← Int.natCast_ediv] at this
end casts

/-! slice literals of none and of one -/
section lits
variable {P : Program} {e : Env} {o : Oper} {Hs : List Assn} {t el : TypeId} {x : Operand} {sz bytes : Nat} {z : List Value}
theorem lay_all {zs vs : List Value} (h : vs.length = zs.length) : lay zs 0 vs = vs := by
  rw [lay_eq _ _ _ (by omega)]
  simp [h]
theorem e_buildSlice1 {v : Value} (hop : o.op = .buildSlice t 1 #[(0, x)]) (ht : P.underlying t = some (.slice el)) (hi : TyInfo P el 1 bytes z) (hzl : z.length = 1) (hx : ev e x = v) (hv : v.oneCell' = true) :
    ERun P e Hs o (fun u H => ∃ b, u = slc b 0 1 1 ∧ H = row b el [v] :: Hs) := by
  have hc : v.cells.toList = [v] := by cases v <;> first | rfl | cases hv
  refine e_buildSlice (cs := [v]) hop ht hi hzl (by omega) ?_ (by simp)
  have hz : (zeros 1 z).length = 1 := by rw [zeros_length, hzl]
  simp only [List.map_cons, List.map_nil, hx, hc]
  unfold layAll
  simp only [List.range_one, List.map_cons, List.map_nil, nth, List.length_cons, List.length_nil, hz]
  rw [show (Nat.beq (0 + 1) 1 && Nat.ble (0 * 1 + 1) 1) = true from rfl]
  simp only [if_true, layAll]
  rw [Nat.zero_mul, lay_all (by simpa using hz.symm)]
theorem e_buildSlice1A {vs : List Value} (hop : o.op = .buildSlice t 1 #[(0, x)]) (ht : P.underlying t = some (.slice el)) (hi : TyInfo P el sz bytes z) (hzl : z.length = sz) (hx : ev e x = .agg vs.toArray) (hvs : vs.length = sz) (hn : sz ≤ 16777216) :
    ERun P e Hs o (fun u H => ∃ b, u = slc b 0 1 1 ∧ H = row b el vs :: Hs) := by
  refine e_buildSlice (cs := vs) hop ht hi hzl (by omega) ?_ (by simp)
  have hz : (zeros 1 z).length = sz := by rw [zeros_length, hzl, Nat.one_mul]
  simp only [List.map_cons, List.map_nil, hx, Value.cells]
  unfold layAll
  simp only [List.range_one, List.map_cons, List.map_nil, nth, hz, hvs]
  rw [show (Nat.beq sz sz && Nat.ble (0 * sz + sz) sz) = true from by simp]
  simp only [if_true, layAll]
  rw [Nat.zero_mul, lay_all (by omega)]
end lits
abbrev intV (n : Nat) : Value := .int .i64 (n : Int)
end Go.Sl
namespace Go.Sl
open Go Go.RowKit Go.ChangeShapes

/-- What was there when the call began, as it was. -/
def old (w : World) : Assn := fun h => ∀ b, b < w.heap.size → h b = w.heap[b]?
theorem Sat.ofOld (w : World) : Sat w (sep [old w]) w := by
  refine ⟨Kept.refl w, fun b => w.heap[b]?, fun _ _ h => h, fun b => w.heap[b]?, fun _ => none, fun _ => .inr rfl, ?_, fun _ _ => rfl, trivial⟩
  funext b
  show w.heap[b]? = match w.heap[b]? with | some o => some o | none => none
  cases w.heap[b]? <;> rfl
theorem Sat.toBelow {w w' : World} {L : List Assn} (h : Sat w (sep (old w :: L)) w') : Below w.heap.size w w' := by
  obtain ⟨k, x, hx, ho⟩ := h.mono (Ent.head _ _)
  refine ⟨k.os, k.tape, k.output, k.size, fun b hb => ?_⟩
  have h1 := ho b hb
  rw [Array.getElem?_eq_getElem hb] at h1 ⊢
  exact hx b _ h1
theorem Ctr.calls1 {P : Program} {f : FuncId} {args : List Value} (w : World) (h : Ctr P f args [old w] (fun v Ps => v = .bool true ∧ Ps = [old w])) :
    Calls P f args.toArray w fun e w' => e = .returned (.bool true) ∧ Below w.heap.size w w' :=
  (h.2 w (sep []) w ((Sat.ofOld w).mono (Ent.append (L := [old w]) (M := []) (M' := [sep []]) (Ent.refl _) Ent.one))).mono fun _ _ ⟨_, _, he, ⟨hv, hp⟩, hs⟩ => by
    subst he hv hp
    exact ⟨rfl, hs.toBelow⟩
theorem trodAll_below {H : Type} {enc : TypeId × Value → H} {P : Program} (hl : laidOutB P = true) {W W' : World} (hb : Below W.heap.size W W') :
    ∀ {ts : List TypeId} {vs : List Value} {ds : List (DataW H)} {ps : List MemPlace}, (ts.all fun t => P.readableRec t && decide (t < P.types.size)) = true → DataW.TrodAll enc P W 0 (fun _ => true) true ts vs ds ps → (∀ x ∈ ps, x.block < W.heap.size) → DataW.TrodAll enc P W' 0 (fun b => decide (b < W.heap.size)) true ts vs ds ps
  | [], _, _, _, _, h, _ => by
    obtain ⟨rfl, rfl, rfl⟩ := trodAll_nil h
    exact rfl
  | _ :: _, _, _, _, hr, h, hlt => by
    obtain ⟨v, vs1, d, ds1, a, b, rfl, rfl, rfl, h1, h2⟩ := trodAll_cons h
    simp only [List.all_cons, Bool.and_eq_true, decide_eq_true_eq] at hr
    exact ⟨a, b, Below.trod hl hr.1.1 hr.1.2 h1 hb (fun x hx => hlt x (List.mem_append_left _ hx)), trodAll_below hl hb hr.2 h2 (fun x hx => hlt x (List.mem_append_right _ hx)), rfl⟩
theorem post_law {H : Type} {enc : TypeId × Value → H} {P : Program} {f : Func} {s : ChangeSpec} {apart fresh handsOn : Bool} {W W' : World} {args : Array Value} {ds gs : List (DataW H)} {before : List MemPlace} {bt : TypeId}
    (hW : DataW.Whole enc P f.params.toList s.vars apart W args.toList ds gs before) (hl : laidOutB P = true) (hr : (f.params.toList.all fun t => P.readableRec t && decide (t < P.types.size)) = true)
    (hv : s.vars = []) (hres : f.resultTypes = #[bt]) (hbt : P.underlying bt = some .bool) (h1 : (s.fn H (ds ++ gs)).results = [.lit (.bool true)]) (h2 : (s.fn H (ds ++ gs)).args = ds) (h3 : (s.fn H (ds ++ gs)).vars = []) (hb : Below W.heap.size W W') :
    s.post enc P f apart fresh handsOn false W args (.bool true) W' := by
  have hW' := hW
  obtain ⟨p, q, hA, hV, rfl, hfz, hnd⟩ := hW'
  rw [hv] at hV
  obtain ⟨rfl, rfl⟩ := trodVars_none hV
  have hA2 : DataW.TrodAll enc P W' 0 (fun b => decide (b < W.heap.size)) true f.params.toList args.toList ds p := trodAll_below hl hb hr hA (fun x hx => by simpa using hW.lt x (by simpa using hx))
  refine ⟨_, _, _, [], p, [], hW, ?_, ?_, ?_, hb.frame _, fun h => by cases h⟩
  · rw [h1, hres]
    exact trodAll_mk1 (shut_bool hbt _)
  · rw [h2]
    exact hA2
  · rw [h3, hv]
    rfl
end Go.Sl
namespace Go.Sl
open Go Go.RowKit Go.ChangeShapes

/-- These cells lie there. -/
def At (w : World) (b off : Nat) (vs : List Value) : Prop := ∀ k v, vs[k]? = some v → w.cell? ⟨b, off + k, none⟩ = some v
def cellsAt (b off : Nat) (vs : List Value) : Assn := fun h => ∀ k v, vs[k]? = some v → ∃ c T f, h b = some (.cells c T f) ∧ c[off + k]? = some v
theorem old_cellsAt {w : World} {b off : Nat} {vs : List Value} (h : At w b off vs) : Ent (old w) (cellsAt b off vs) := Ent.of_imp fun x hx k v hk => by
  have h1 := h k v hk
  unfold World.cell? at h1
  have hb : b < w.heap.size := by
    rcases Nat.lt_or_ge b w.heap.size with g | g
    · exact g
    · rw [Array.getElem?_eq_none g] at h1; cases h1
  have h2 := hx b hb
  cases hw : w.heap[b]? with
  | none => rw [hw] at h1; cases h1
  | some o =>
    rw [hw] at h1 h2
    cases o with
    | cells c T f => exact ⟨c, T, f, h2, by simpa using h1⟩
    | _ => cases h1
theorem Sat.at {W0 w : World} {L : List Assn} {i b off : Nat} {vs : List Value} (s : Sat W0 (sep L) w) (h : nth L i = some (cellsAt b off vs)) : At w b off vs := by
  obtain ⟨_, x, hx, ha⟩ := s.mono ((Ent.perm (perm_nth h)).trans (Ent.head _ _))
  intro k v hk
  obtain ⟨c, T, f, h1, h2⟩ := ha k v hk
  unfold World.cell?
  rw [show w.heap[b]? = some (.cells c T f) from hx b _ h1]
  simpa using h2
section
variable {P : Program} {e : Env} {o : Oper} {Rs : List Assn}
theorem q_loadC {t : TypeId} {x : Operand} {b off i sz : Nat} {vs : List Value} (hop : o.op = .load t x) (ht : IsAgg P t) (hsz : TySize P t sz) (hx : ev e x = ptr b off) (hn : nth Rs i = some (cellsAt b off vs)) (hl : vs.length = sz) : QRun P e Rs o (.agg vs.toArray) := by
  intro W0 w hs; unfold execOp; rw [hop]; simp only [hx]
  have h1 : (Go.loadCells ⟨b, off, none⟩ sz).run P w = .ok vs.toArray w := by
    unfold Go.loadCells
    rw [run_loadCellsFrom (cs := vs) (fun k v hk => hs.at hn k v hk) sz 0 #[] (by omega)]
    simp [← hl]
  simp only [Instr.loadAt, Instr.sureAddr, loadVar, Sem.run_bind, Sem.run_pure, Result.andThen_ok, run_isAgg_yes ht, if_true, run_sizeOf' hsz, h1]
theorem q_load1C {t : TypeId} {x : Operand} {b off k i : Nat} {vs : List Value} {v : Value} (hop : o.op = .load t x) (ht : Scalar P t) (hx : ev e x = ptr b (off + k)) (hn : nth Rs i = some (cellsAt b off vs)) (hv : vs[k]? = some v) : QRun P e Rs o v := by
  intro W0 w hs; unfold execOp; rw [hop]; simp only [hx]
  simp only [Instr.loadAt, Instr.sureAddr, loadVar, Sem.run_bind, Sem.run_pure, Result.andThen_ok, run_isAgg_no ht, Bool.false_eq_true, if_false, run_load, hs.at hn k v hv]
end
theorem weights_all {H : Type} {P : Program} {e : TypeId} {d : DataW H} {n : Nat} : ∀ {l : List (DataW H)}, d ∈ l → n ∈ d.weights P e → n ∈ DataW.weightsAll P e l
  | _ :: r, hd, hn => by
    simp only [DataW.weightsAll, List.mem_append]
    rcases List.mem_cons.1 hd with rfl | h
    · exact .inl hn
    · exact .inr (weights_all h hn)
/-- A slice that came in: nil, or its elements' cells lie there. -/
theorem open_cells {H : Type} {enc : TypeId × Value → H} {P : Program} {W : World} {sp : Nat → Bool} {held : Bool} {t e : TypeId} {v : Value} {d : DataW H} {p : List MemPlace} {sz : Nat} (ht : P.underlying t = some (.slice e)) (hz : P.cellsOf e = sz) (hz0 : 0 < sz)
    (hv : ∃ a n c, v = .slice a n c) (h : DataW.Trod enc P W 0 sp held t v d p) :
    ∃ (q : Option Addr) (cap : Nat) (cs : List (List Value)), v = .slice q cs.length cap ∧ cs.length ≤ maxLen ∧ (0 < cs.length → ∃ b off, q = some ⟨b, off, none⟩ ∧ ∀ i (hi : i < cs.length), At W b (off + i * sz) cs[i]) ∧
      ∀ c ∈ cs, ∃ m x, DataW.trod enc P W 0 sp held m e c = some x ∧ ∀ n ∈ x.1.weights P e, n ∈ d.weights P t := by
  obtain ⟨a, n, c, rfl⟩ := hv
  obtain ⟨fuel, hf⟩ := h
  rcases DataW.trod_slice ht hf with ⟨h0, _⟩ | ⟨a', len, cap, elems, rest, m, _, h0, hd, _, hlc, hcm, hel, hi, _, _⟩
  · simp [Value.cells] at h0
    obtain ⟨rfl, rfl, rfl⟩ := h0
    exact ⟨none, 0, [], rfl, by simp, fun h => by simp at h, fun _ h => by cases h⟩
  · simp [Value.cells] at h0
    obtain ⟨rfl, rfl, rfl⟩ := h0
    have h1 : ∀ i, i < n → ∃ cs', W.cells? 0 (a'.add (i * sz)) sz = some cs' ∧ ∃ x, DataW.trod enc P W 0 sp held m e cs' = some x ∧ ∀ n ∈ x.1.weights P e, n ∈ d.weights P t := by
      intro i hlt
      have h2 := hi i hlt
      have he : i < elems.length := by omega
      rw [List.getElem?_eq_getElem he, hz] at h2
      obtain ⟨cs', h3, h4⟩ := Option.bind_eq_some_iff.1 h2
      refine ⟨cs', h3, _, h4, fun k hk => ?_⟩
      rw [show d = _ from congrArg Prod.fst hd]
      simp only [DataW.weights, ht, List.mem_cons, List.mem_append]
      exact .inr (.inl (weights_all (List.mem_map.2 ⟨_, List.getElem_mem he, rfl⟩) hk))
    have h2 : ∃ cs : List (List Value), cs.length = n ∧ ∀ i (hl : i < cs.length), W.cells? 0 (a'.add (i * sz)) sz = some cs[i] ∧ ∃ x, DataW.trod enc P W 0 sp held m e cs[i] = some x ∧ ∀ n ∈ x.1.weights P e, n ∈ d.weights P t := by
      clear hlc hcm hel hi hf
      revert h1
      generalize n = N
      intro h1
      induction N with
      | zero => exact ⟨[], rfl, fun i h => by simp at h⟩
      | succ n ih =>
        obtain ⟨cs, hl, hc⟩ := ih (fun i hlt => h1 i (by omega))
        obtain ⟨c', hc'⟩ := h1 n (by omega)
        refine ⟨cs ++ [c'], by simp [hl], fun i hlt => ?_⟩
        rcases Nat.lt_or_ge i n with g | g
        · rw [List.getElem_append_left (by omega)]
          exact hc i (by omega)
        · have : i = n := by simp [hl] at hlt; omega
          subst this
          rw [List.getElem_append_right (by omega)]
          simpa [hl] using hc'
    obtain ⟨cs, rfl, hc⟩ := h2
    refine ⟨some a', c, cs, rfl, Nat.le_trans hlc hcm, fun h0 => ?_, fun c hm => ?_⟩
    · obtain ⟨b, off, spot⟩ := a'
      have hs : spot = none := by
        obtain ⟨_, hlen, hcell⟩ := World.cells?_some (hc 0 h0).1
        have h5 := hcell 0 hz0
        rw [List.getElem?_eq_getElem (by omega)] at h5
        simpa [Addr.add] using World.cell?_spot h5
      subst hs
      refine ⟨b, off, rfl, fun i hi k v hk => ?_⟩
      obtain ⟨_, hlen, hcell⟩ := World.cells?_some (hc i hi).1
      have hk' : k < sz := by rw [← hlen]; exact (List.getElem?_eq_some_iff.1 hk).1
      have h5 := hcell k hk'
      rw [hk, addr_add, addr_add] at h5
      exact h5
    · obtain ⟨i, hi, rfl⟩ := List.getElem_of_mem hm
      exact ⟨m, (hc i hi).2⟩
/-- To each its own. -/
theorem pick_list {α β : Type} {R : α → β → Prop} : ∀ {l : List α}, (∀ a ∈ l, ∃ b, R a b) → ∃ m : List β, m.length = l.length ∧ ∀ i (h : i < l.length) (h' : i < m.length), R l[i] m[i]
  | [], _ => ⟨[], rfl, fun i h => by simp at h⟩
  | a :: l, h => by
    obtain ⟨b, hb⟩ := h a (List.mem_cons_self ..)
    obtain ⟨m, hm, hr⟩ := pick_list (l := l) (fun x hx => h x (List.mem_cons_of_mem _ hx))
    refine ⟨b :: m, by simp [hm], fun i h1 h2 => ?_⟩
    cases i with
    | zero => exact hb
    | succ i => exact hr i (by simpa using h1) (by simpa using h2)
end Go.Sl
