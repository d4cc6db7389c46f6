/-
  More forms of the same laws; slices with a third bound; a call that the model answers itself. It proves nothing of the program by itself.
-/
import Derived.Test.YtokbjejbgbdkoaaDoorGSl8
import Derived.Lib.MakeNoZero
import Derived.WalkKit
import Derived.ProofKit
import Derived.OpenShut
set_option linter.unusedVariables false
set_option linter.unusedSimpArgs false
namespace Go.Sl
open Go
section nats
variable {P : Program} {e : Env} {o : Oper} {Hs : List Assn}
theorem p_indexAddr1N {t el : TypeId} {x ix : Operand} {b off n cap i : Nat} {k : IntKind} (hop : o.op = .indexAddr t x ix) (ht : P.underlying t = some (.slice el)) (hsz : TySize P el 1)
    (hx : ev e x = slc b off n cap) (hi : ev e ix = .int k (i : Int)) (hb : i < n) : PRun P e o (ptr b (off + i)) := by
  have := p_indexAddrN (P := P) hop ht hsz hx hi hb
  simpa using this
theorem p_indexAddr1 {t el : TypeId} {x ix : Operand} {b off n cap : Nat} {i : Int} {k : IntKind} (hop : o.op = .indexAddr t x ix) (ht : P.underlying t = some (.slice el)) (hsz : TySize P el 1)
    (hx : ev e x = slc b off n cap) (hi : ev e ix = .int k i) (hb : 0 ≤ i ∧ i < n) : PRun P e o (ptr b (off + i.toNat)) := by
  have := p_indexAddr (P := P) hop ht hsz hx hi hb
  simpa using this
theorem p_slice_s_lo {t : TypeId} {x y : Operand} {s : List UInt8} {l : Nat} {k : IntKind} (hop : o.op = .slice t x (some y) none none) (ht : P.underlying t = some .string) (hx : ev e x = strV s)
    (hl : ev e y = .int k (l : Int)) (hb : l ≤ s.length) : PRun P e o (strV (s.drop l)) := by
  have := p_sliceN_s (P := P) (l := l) (h := s.length) hop ht hx (by simp [loOf, hl]) rfl ⟨hb, Nat.le_refl _⟩
  simpa using this
theorem p_slice_s_hi {t : TypeId} {x y : Operand} {s : List UInt8} {h : Nat} {k : IntKind} (hop : o.op = .slice t x none (some y) none) (ht : P.underlying t = some .string) (hx : ev e x = strV s)
    (hl : ev e y = .int k (h : Int)) (hb : h ≤ s.length) : PRun P e o (strV (s.take h)) := by
  have := p_sliceN_s (P := P) (l := 0) (h := h) hop ht hx rfl (by simp [hiOf, hl]) ⟨Nat.zero_le _, hb⟩
  simpa using this
theorem p_slice_hi {t el : TypeId} {x y : Operand} {b off n cap sz h : Nat} {k : IntKind} (hop : o.op = .slice t x none (some y) none) (ht : P.underlying t = some (.slice el)) (hsz : TySize P el sz) (hx : ev e x = slc b off n cap)
    (hl : ev e y = .int k (h : Int)) (hb : h ≤ cap) : PRun P e o (slc b off h cap) := by
  have := p_sliceN (P := P) (l := 0) (h := h) hop ht hsz hx rfl (by simp [hiOf, hl]) ⟨Nat.zero_le _, hb⟩
  simpa using this
/-- x[:h:m]. -/
theorem p_slice3 {t el : TypeId} {x u m : Operand} {b off n cap sz h mx : Nat} {k k' : IntKind} (hop : o.op = .slice t x none (some u) (some m)) (ht : P.underlying t = some (.slice el)) (hsz : TySize P el sz) (hx : ev e x = slc b off n cap)
    (hh : ev e u = .int k (h : Int)) (hm : ev e m = .int k' (mx : Int)) (hb : h ≤ mx ∧ mx ≤ cap) : PRun P e o (slc b off h mx) := by
  intro w; unfold execOp; rw [hop]; simp only [hx]
  have a1 := fun c => run_bound (P := P) (w := w) (k := k') (c := c) (show 0 ≤ (mx : Int) ∧ (mx : Int) ≤ ((cap : Nat) : Int) from ⟨by omega, by omega⟩)
  have a2 := fun c => run_bound (P := P) (w := w) (k := k) (c := c) (show 0 ≤ (h : Int) ∧ (h : Int) ≤ ((mx : Nat) : Int) from ⟨by omega, by omega⟩)
  simp only [Int.toNat_natCast] at a1 a2
  simp [Instr.sliceAt, Instr.slice, run_underlying' ht, Instr.sliceBounds, hh, hm, a1, a2, run_sizeOf' hsz]
  intro _
  simp [Addr.add]
end nats

theorem Src.ent {P : Program} {Hs Hs' : List Assn} {v : Value} {m sz : Nat} {ys : List Value} (h : Ent (sep Hs) (sep Hs')) (k : Src P Hs' v m sz ys) : Src P Hs v m sz ys :=
  ⟨k.1, fun W0 w hs => k.2.1 W0 w (hs.mono h), fun W0 w j hs hj => k.2.2 W0 w j (hs.mono h) hj⟩
theorem QRun.ent {P : Program} {e : Env} {Hs Hs' : List Assn} {o : Oper} {v : Value} (h : Ent (sep Hs) (sep Hs')) (k : QRun P e Hs' o v) : QRun P e Hs o v := fun W0 w hs => k W0 w (hs.mono h)
/-! numbers that are casts stay casts -/
section casts
variable {P : Program} {e : Env} {o : Oper} {t t' : TypeId} {x y : Operand} {a b : Nat}
theorem p_addN (hop : o.op = .binOp .add t x y t') (hx : ev e x = .int .i64 (a : Int)) (hy : ev e y = .int .i64 (b : Int)) (h : a + b ≤ 9223372036854775807) : PRun P e o (.int .i64 ((a + b : Nat) : Int)) := by
  have := p_add (P := P) hop hx hy ⟨by omega, by omega⟩
  rwa [← Int.natCast_add] at this
theorem p_subN (hop : o.op = .binOp .sub t x y t') (hx : ev e x = .int .i64 (a : Int)) (hy : ev e y = .int .i64 (b : Int)) (h : b ≤ a ∧ a ≤ 9223372036854775807) : PRun P e o (.int .i64 ((a - b : Nat) : Int)) := by
  have := p_sub (P := P) hop hx hy ⟨by omega, by omega⟩
  rwa [show (a : Int) - b = ((a - b : Nat) : Int) from by omega] at this
end casts

/-! slice literals of none and of one -/
section lits
variable {P : Program} {e : Env} {o : Oper} {Hs : List Assn} {t el : TypeId} {x : Operand} {sz bytes : Nat} {z : List Value}
theorem lay_all {zs vs : List Value} (h : vs.length = zs.length) : lay zs 0 vs = vs := by
  rw [lay_eq _ _ _ (by omega)]
  simp [h]
theorem e_buildSlice1 {v : Value} (hop : o.op = .buildSlice t 1 #[(0, x)]) (ht : P.underlying t = some (.slice el)) (hi : TyInfo P el 1 bytes z) (hzl : z.length = 1) (hx : ev e x = v) (hv : v.oneCell' = true) :
    ERun P e Hs o (fun u H => ∃ b, u = slc b 0 1 1 ∧ H = row b el [v] :: Hs) := by
  have hc : v.cells.toList = [v] := by cases v <;> first | rfl | cases hv
  refine e_buildSlice (cs := [v]) hop ht hi hzl (by omega) ?_ (by simp)
  have hz : (zeros 1 z).length = 1 := by rw [zeros_length, hzl]
  simp only [List.map_cons, List.map_nil, hx, hc]
  unfold layAll
  simp only [List.range_one, List.map_cons, List.map_nil, nth, List.length_cons, List.length_nil, hz]
  rw [show (Nat.beq (0 + 1) 1 && Nat.ble (0 * 1 + 1) 1) = true from rfl]
  simp only [if_true, layAll]
  rw [Nat.zero_mul, lay_all (by simpa using hz.symm)]
end lits
abbrev intV (n : Nat) : Value := .int .i64 (n : Int)
end Go.Sl
namespace Go.Sl
open Go Go.RowKit Go.ChangeShapes

/-- What was there when the call began, as it was. -/
def old (w : World) : Assn := fun h => ∀ b, b < w.heap.size → h b = w.heap[b]?
theorem Sat.ofOld (w : World) : Sat w (sep [old w]) w := by
  refine ⟨Kept.refl w, fun b => w.heap[b]?, fun _ _ h => h, fun b => w.heap[b]?, fun _ => none, fun _ => .inr rfl, ?_, fun _ _ => rfl, trivial⟩
  funext b
  show w.heap[b]? = match w.heap[b]? with | some o => some o | none => none
  cases w.heap[b]? <;> rfl
theorem Sat.toBelow {w w' : World} {L : List Assn} (h : Sat w (sep (old w :: L)) w') : Below w.heap.size w w' := by
  obtain ⟨k, x, hx, ho⟩ := h.mono (Ent.head _ _)
  refine ⟨k.os, k.tape, k.output, k.size, fun b hb => ?_⟩
  have h1 := ho b hb
  rw [Array.getElem?_eq_getElem hb] at h1 ⊢
  exact hx b _ h1
theorem Ctr.calls1 {P : Program} {f : FuncId} {args : List Value} (w : World) (h : Ctr P f args [old w] (fun v Ps => v = .bool true ∧ Ps = [old w])) :
    Calls P f args.toArray w fun e w' => e = .returned (.bool true) ∧ Below w.heap.size w w' :=
  (h.2 w (sep []) w ((Sat.ofOld w).mono (Ent.append (L := [old w]) (M := []) (M' := [sep []]) (Ent.refl _) Ent.one))).mono fun _ _ ⟨_, _, he, ⟨hv, hp⟩, hs⟩ => by
    subst he hv hp
    exact ⟨rfl, hs.toBelow⟩
theorem trodAll_below {H : Type} {enc : TypeId × Value → H} {P : Program} (hl : laidOutB P = true) {W W' : World} (hb : Below W.heap.size W W') :
    ∀ {ts : List TypeId} {vs : List Value} {ds : List (DataW H)} {ps : List MemPlace}, (ts.all fun t => P.readableRec t && decide (t < P.types.size)) = true → DataW.TrodAll enc P W 0 (fun _ => true) true ts vs ds ps → (∀ x ∈ ps, x.block < W.heap.size) → DataW.TrodAll enc P W' 0 (fun b => decide (b < W.heap.size)) true ts vs ds ps
  | [], _, _, _, _, h, _ => by
    obtain ⟨rfl, rfl, rfl⟩ := trodAll_nil h
    exact rfl
  | _ :: _, _, _, _, hr, h, hlt => by
    obtain ⟨v, vs1, d, ds1, a, b, rfl, rfl, rfl, h1, h2⟩ := trodAll_cons h
    simp only [List.all_cons, Bool.and_eq_true, decide_eq_true_eq] at hr
    exact ⟨a, b, Below.trod hl hr.1.1 hr.1.2 h1 hb (fun x hx => hlt x (List.mem_append_left _ hx)), trodAll_below hl hb hr.2 h2 (fun x hx => hlt x (List.mem_append_right _ hx)), rfl⟩
theorem post_law {H : Type} {enc : TypeId × Value → H} {P : Program} {f : Func} {s : ChangeSpec} {apart fresh handsOn : Bool} {W W' : World} {args : Array Value} {ds gs : List (DataW H)} {before : List MemPlace} {bt : TypeId}
    (hW : DataW.Whole enc P f.params.toList s.vars apart W args.toList ds gs before) (hl : laidOutB P = true) (hr : (f.params.toList.all fun t => P.readableRec t && decide (t < P.types.size)) = true)
    (hv : s.vars = []) (hres : f.resultTypes = #[bt]) (hbt : P.underlying bt = some .bool) (h1 : (s.fn H (ds ++ gs)).results = [.lit (.bool true)]) (h2 : (s.fn H (ds ++ gs)).args = ds) (h3 : (s.fn H (ds ++ gs)).vars = []) (hb : Below W.heap.size W W') :
    s.post enc P f apart fresh handsOn false W args (.bool true) W' := by
  have hW' := hW
  obtain ⟨p, q, hA, hV, rfl, hfz, hnd⟩ := hW'
  rw [hv] at hV
  obtain ⟨rfl, rfl⟩ := trodVars_none hV
  have hA2 : DataW.TrodAll enc P W' 0 (fun b => decide (b < W.heap.size)) true f.params.toList args.toList ds p := trodAll_below hl hb hr hA (fun x hx => by simpa using hW.lt x (by simpa using hx))
  refine ⟨_, _, _, [], p, [], hW, ?_, ?_, ?_, hb.frame _, fun h => by cases h⟩
  · rw [h1, hres]
    exact trodAll_mk1 (shut_bool hbt _)
  · rw [h2]
    exact hA2
  · rw [h3, hv]
    rfl
end Go.Sl
namespace Go.Sl
open Go Go.RowKit Go.ChangeShapes

/-- These cells lie there. -/
def At (w : World) (b off : Nat) (vs : List Value) : Prop := ∀ k v, vs[k]? = some v → w.cell? ⟨b, off + k, none⟩ = some v
def cellsAt (b off : Nat) (vs : List Value) : Assn := fun h => ∀ k v, vs[k]? = some v → ∃ c T f, h b = some (.cells c T f) ∧ c[off + k]? = some v
theorem Sat.at {W0 w : World} {L : List Assn} {i b off : Nat} {vs : List Value} (s : Sat W0 (sep L) w) (h : nth L i = some (cellsAt b off vs)) : At w b off vs := by
  obtain ⟨_, x, hx, ha⟩ := s.mono ((Ent.perm (perm_nth h)).trans (Ent.head _ _))
  intro k v hk
  obtain ⟨c, T, f, h1, h2⟩ := ha k v hk
  unfold World.cell?
  rw [show w.heap[b]? = some (.cells c T f) from hx b _ h1]
  simpa using h2
section
variable {P : Program} {e : Env} {o : Oper} {Rs : List Assn}
end
end Go.Sl
