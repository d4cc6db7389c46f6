/-
  append, copy, conversions of bytes and strings, literals, calls. It proves nothing of the program by itself.
-/
import Derived.Test.YtbbgajjonodlfaaGreatGSl7a
import Derived.Laws.BytesString
import Derived.Laws.IdiomStrings
set_option linter.unusedVariables false
set_option linter.unusedSimpArgs false
namespace Go.Sl
open Go

/-- v is a slice of n elements of type el (sz cells each) at the head of a row of its own; its cells are xs. -/
def vec (el : TypeId) (sz : Nat) (v : Value) (n : Nat) (xs : List Value) : Assn := fun h =>
  xs.length = n * sz ∧ ((v = .slice none 0 0 ∧ n = 0) ∨ ∃ b cap rest, v = slc b 0 n cap ∧ n ≤ cap ∧ cap ≤ 9223372036854775807 ∧ (xs ++ rest).length = cap * sz ∧ row b el (xs ++ rest) h)

section more
variable {P : Program} {e : Env} {o : Oper} {Rs Hs : List Assn}

/-- The value v, read as m elements of sz cells: ys. -/
def Src (P : Program) (Hs : List Assn) (v : Value) (m sz : Nat) (ys : List Value) : Prop :=
  ys.length = m * sz ∧ (∀ W0 w, Sat W0 (sep Hs) w → (Builtin.lenOf v).run P w = .ok m w) ∧ ∀ W0 w k, Sat W0 (sep Hs) w → k ≤ m → (Builtin.firstCells sz k v).run P w = .ok (ys.take (k * sz)).toArray w
theorem src_nil {sz c : Nat} : Src P Hs (.slice none 0 c) 0 sz [] := by
  refine ⟨by simp, fun _ _ _ => rfl, fun W0 w k _ hk => ?_⟩
  obtain rfl : k = 0 := by omega
  simp [Builtin.firstCells]
theorem src_row {b off n cap sz i : Nat} {T : TypeId} {cs ys : List Value} (hn : nth Hs i = some (row b T cs)) (hl : off + n * sz ≤ cs.length) (hy : (cs.drop off).take (n * sz) = ys) : Src P Hs (slc b off n cap) n sz ys := by
  subst hy
  refine ⟨by simp; omega, fun _ _ _ => rfl, fun W0 w k hs hk => ?_⟩
  have hle : k * sz ≤ n * sz := Nat.mul_le_mul_right _ hk
  have := hs.loadCells (P := P) (off := off) (n := k * sz) hn (by omega)
  simp only [Builtin.firstCells, this]
  congr 2
  rw [List.take_take, Nat.min_eq_left hle]
theorem src_full {b n cap sz i : Nat} {T : TypeId} {cs : List Value} (hn : nth Hs i = some (row b T cs)) (hl : cs.length = n * sz) : Src P Hs (slc b 0 n cap) n sz cs :=
  src_row hn (by omega) (by rw [List.drop_zero, List.take_of_length_le (by omega)])
theorem one_one {v : Value} (h : v.oneCell' = true) : ∀ u ∈ [v], u.oneCell' = true := fun u hu => by rw [List.mem_singleton.1 hu]; exact h
theorem src_str {l : List UInt8} : Src P Hs (strV l) l.length 1 (l.map u8V) := by
  refine ⟨by simp, fun _ _ _ => rfl, fun W0 w k _ hk => ?_⟩
  simp only [Builtin.firstCells, Sem.run_pure]
  congr 1
  apply Array.ext'
  simp [List.map_take]
theorem q_len_vec {t el el' : TypeId} {x : Operand} {v : Value} {n sz i : Nat} {xs : List Value} (hop : o.op = .call { callee := .builtin .len, args := #[x], argTypes := #[t] }) (ht : P.underlying t = some (.slice el)) (hx : ev e x = v) (hn : nth Rs i = some (vec el' sz v n xs)) : QRun P e Rs o (.int .i64 n) := by
  intro W0 w hs
  obtain ⟨_, fr, _, _, hcase⟩ := hs.mono ((Ent.perm (perm_nth hn)).trans (Ent.head _ _))
  rcases hcase with ⟨rfl, rfl⟩ | ⟨b, cap, rest, rfl, _⟩
  · exact p_len hop ht hx w
  · exact p_len hop ht hx w
theorem one_u8 {l : List UInt8} : ∀ u ∈ l.map u8V, u.oneCell' = true := by
  intro u hu
  obtain ⟨x, _, rfl⟩ := List.mem_map.1 hu
  rfl
theorem zeroCells_eq (z : List Value) (n : Nat) : (Builtin.zeroCells z.toArray n).toList = zeros n z := by
  unfold Builtin.zeroCells
  exact zeros_eq n z
theorem grownCap_bound (w : World) (n c : Nat) (el : TypeId) (h : n ≤ 9223372036854775807) : n ≤ grownCap w n c el ∧ grownCap w n c el ≤ 9223372036854775807 := by
  unfold grownCap
  simp only [Question.cut]
  have e63 : (2 : Nat) ^ 63 = 9223372036854775808 := by decide
  have hp : 0 < 2 ^ 63 - n := by omega
  have := Nat.mod_lt (w.tape w.drawn (.appendCap n c el)) hp
  omega
/-- append, where the first is a row of the call's own (or nil). -/
theorem e_append {s x : Operand} {t t' el : TypeId} {sz bytes n m i : Nat} {z : List Value} {v : Value} {xs ys : List Value} (hop : o.op = .call { callee := .builtin .append, args := #[s, x], argTypes := #[t, t'] })
    (ht : P.underlying t = some (.slice el)) (ht' : ∃ d, P.underlying t' = some d ∧ ∀ k, d ≠ .int k) (hi : TyInfo P el sz bytes z) (hzl : z.length = sz)
    (hs : ev e s = v) (hn : nth Hs i = some (vec el sz v n xs)) (hx : Src P Hs (ev e x) m sz ys) (h1 : ∀ u ∈ ys, u.oneCell' = true)
    (hb : n + m ≤ 9223372036854775807 ∧ (n + m) * bytes ≤ 140737488355328) :
    ERun P e Hs o (fun u H => u.oneCell' = true ∧ H = setN Hs i (vec el sz u (n + m) (xs ++ ys))) := by
  intro W0 w hsat
  obtain ⟨hyl, hlen, hfirst⟩ := hx
  obtain ⟨d, hd, hdi⟩ := ht'
  obtain ⟨inf, zv, hi1, hi2, hi3, hi4, hi5⟩ := hi
  have hzv : zv.cells = z.toArray := by rw [← hi5]
  have hop2 : ∀ w' u, (Builtin.append_ #[t, t'] o.type #[v, ev e x]).run P w = .ok u w' → (execOp (ev e) o).run P w = .ok (.value u) w' := by
    intro w' u h
    refine run_builtin hop ?_
    rw [map2, hs]
    simp only [builtin, Sem.run_bind, h, Result.andThen_ok, Sem.run_pure]
  obtain ⟨k, y, hy, f1, f2, dj, rfl, ⟨hxs, hcase⟩, hl⟩ := hsat.mono (Ent.perm (perm_nth hn))
  have hsat0 := hsat
  -- a new row
  have hnew : ∀ base c, v = .slice base n c → ¬ (n + m ≤ c) → (Builtin.firstCells inf.size n (.slice base n c)).run P w.drew = .ok xs.toArray w.drew →
      ∃ u w', (Builtin.append_ #[t, t'] o.type #[v, ev e x]).run P w = .ok u w' ∧ u.oneCell' = true ∧ Sat W0 (sep (setN Hs i (vec el sz u (n + m) (xs ++ ys)))) w' := by
    rintro base c rfl hg hold
    have hn1 := hfirst W0 w.drew m hsat.drew (Nat.le_refl _)
    rw [List.take_of_length_le (by omega)] at hn1
    have hgc := grownCap_bound w (n + m) c el hb.1
    have hr := run_append_new (P := P) (w := w) (ty := o.type) ht hd hdi hi1 hi4 (hlen W0 w hsat) hg hb.1 (by
      rw [hi3]; exact growslice_fits (by omega) hb.2) hold (by rw [hi2]; exact hn1)
    have hrow : (xs.toArray ++ ys.toArray ++ Builtin.zeroCells zv.cells (grownCap w (n + m) c el - (n + m))) = ((xs ++ ys) ++ zeros (grownCap w (n + m) c el - (n + m)) z).toArray := by
      rw [hzv]
      apply Array.ext'
      simp [zeroCells_eq]
    rw [hrow] at hr
    refine ⟨_, _, hr, rfl, ?_⟩
    have s1 := (hsat.drew.newRow el ((xs ++ ys) ++ zeros (grownCap w (n + m) c el - (n + m)) z)).mono (Ent.cons (Ent.refl _) ((Ent.perm (perm_nth hn)).trans (Ent.drop _ _)))
    refine s1.mono ((Ent.cons (Ent.of_imp ?_) (Ent.refl _)).trans (Ent.perm (perm_setN hn)))
    intro f hf
    refine ⟨by simp [hxs, hyl, Nat.add_mul], .inr ⟨_, _, _, rfl, hgc.1, hgc.2, ?_, hf⟩⟩
    simp only [List.length_append, hxs, hyl, zeros_length, hzl]
    rw [← Nat.add_mul, ← Nat.add_mul]
    congr 1
    omega
  rcases hcase with ⟨rfl, rfl⟩ | ⟨b, cap, rest, rfl, hnc, hcm, hrl, hrow⟩
  · by_cases hm : m = 0
    · subst hm
      have hys : ys = [] := List.eq_nil_of_length_eq_zero (by rw [hyl]; simp)
      have hxs0 : xs = [] := List.eq_nil_of_length_eq_zero (by rw [hxs]; simp)
      subst hys hxs0
      have hf0 := hfirst W0 w 0 hsat (Nat.le_refl _)
      simp only [Nat.zero_mul, List.take_nil] at hf0
      refine ⟨_, w, _, .inl (hop2 _ _ (run_append_none (P := P) (ty := o.type) ht hd hdi hi1 (hlen W0 w hsat) (by rw [hi2]; simpa using hf0))), ⟨rfl, rfl⟩, ?_⟩
      refine hsat0.mono (Ent.at hn (Ent.of_imp ?_))
      intro f hf
      simpa using hf
    · obtain ⟨u, w', r1, r0, r2⟩ := hnew none 0 rfl (by omega) (by simp only [Builtin.firstCells, Sem.run_pure]; rw [List.eq_nil_of_length_eq_zero (l := xs) (by rw [hxs]; simp)])
      exact ⟨u, w', _, .inl (hop2 _ _ r1), ⟨r0, rfl⟩, r2⟩
  · -- the row is there
    have hsrow : Sat W0 (sep (row b el (xs ++ rest) :: delN Hs i)) w := ⟨k, _, hy, f1, f2, dj, rfl, hrow, hl⟩
    by_cases hg : n + m ≤ cap
    · have hn1 := hfirst W0 w m hsat (Nat.le_refl _)
      rw [List.take_of_length_le (by omega)] at hn1
      have hcs : n * sz + ys.length ≤ (xs ++ rest).length := by
        rw [hrl, hyl, ← Nat.add_mul]
        exact Nat.mul_le_mul_right _ hg
      obtain ⟨w', st1, st2⟩ := hsrow.storeCells (P := P) (i := 0) (off := n * sz) (k := 0) (vs := ys) rfl (by omega) h1
      have hr := run_append_room' (P := P) (w := w) (w' := w') (ty := o.type) (b := b) (n := n) (c := cap) (new := ys.toArray) ht hd hdi hi1 (hlen W0 w hsat) hg (by rw [hi2]; exact hn1) (by rw [hi2]; exact st1)
      refine ⟨_, w', _, .inl (hop2 _ _ hr), ⟨rfl, rfl⟩, ?_⟩
      refine st2.mono ((Ent.cons (Ent.of_imp ?_) (Ent.refl _)).trans (Ent.perm (perm_setN hn)))
      intro f hf
      have e1 : lay (xs ++ rest) (n * sz + 0) ys = (xs ++ ys) ++ rest.drop ys.length := by
        rw [lay_eq _ _ _ (by omega)]
        have e0 : n * sz + 0 = xs.length := by omega
        rw [e0, List.take_left, ← List.drop_drop, List.drop_left]
      rw [e1] at hf
      refine ⟨by simp [hxs, hyl, Nat.add_mul], .inr ⟨b, cap, _, rfl, hg, hcm, ?_, hf⟩⟩
      rw [← hrl]
      simp only [List.length_append] at hcs ⊢
      simp only [List.length_drop]
      omega
    · obtain ⟨u, w', r1, r0, r2⟩ := hnew _ _ rfl hg (by
        have hl2 := hsrow.drew.loadCells (P := P) (i := 0) (off := 0) (n := n * sz) rfl (by simp [hxs])
        simp only [Builtin.firstCells]
        rw [hi2, hl2]
        congr 2
        rw [List.drop_zero, ← hxs, List.take_left])
      · exact ⟨u, w', _, .inl (hop2 _ _ r1), ⟨r0, rfl⟩, r2⟩

/-! copy -/
theorem e_copy {s x : Operand} {t t' el : TypeId} {sz b off n cap m i : Nat} {T : TypeId} {cs ys : List Value} (hop : o.op = .call { callee := .builtin .copy, args := #[s, x], argTypes := #[t, t'] })
    (ht : P.underlying t = some (.slice el)) (hsz : TySize P el sz) (hs : ev e s = slc b off n cap) (hn : nth Hs i = some (row b T cs)) (hl : off + n * sz ≤ cs.length) (hx : Src P Hs (ev e x) m sz ys) (h1 : ∀ u ∈ ys, u.oneCell' = true) :
    ERun P e Hs o (fun u H => u = .int .i64 ((min m n : Nat) : Int) ∧ H = setN Hs i (row b T (lay cs off (ys.take (min m n * sz))))) := by
  intro W0 w hsat
  obtain ⟨hyl, hlen, hfirst⟩ := hx
  have hf := hfirst W0 w (min m n) hsat (Nat.min_le_left _ _)
  have hle : (ys.take (min m n * sz)).length ≤ n * sz := by
    rw [List.length_take]
    exact Nat.le_trans (Nat.min_le_left _ _) (Nat.mul_le_mul_right _ (Nat.min_le_right _ _))
  obtain ⟨w', s1, s2⟩ := hsat.storeCells (P := P) (off := off) (k := 0) (vs := ys.take (min m n * sz)) hn (by omega) (fun u hu => h1 u (List.mem_of_mem_take hu))
  refine ⟨_, w', _, .inl ?_, ⟨rfl, rfl⟩, s2⟩
  refine run_builtin hop ?_
  rw [map2, hs]
  have hm : m.min n = min m n := rfl
  simp [builtin, Builtin.copy_, run_underlying' ht, run_sizeOf' hsz, hlen W0 w hsat, hm, hf, s1, goInt]

/-! bytes and strings -/
theorem q_bytes_str {src dst el : TypeId} {x : Operand} {b off n cap i : Nat} {T : TypeId} {cs : List Value} {l : List UInt8} (hop : o.op = .convert src dst x) (hs : P.underlying src = some (.slice el)) (he : P.underlying el = some (.int .u8)) (hd : P.underlying dst = some .string)
    (hx : ev e x = slc b off n cap) (hn : nth Rs i = some (row b T cs)) (hl : off + n ≤ cs.length) (hv : (cs.drop off).take n = l.map u8V) : QRun P e Rs o (strV l) := by
  intro W0 w hsat; unfold execOp; rw [hop]; simp only [hx]
  have hll : l.length = n := by
    have := congrArg List.length hv
    simp at this
    omega
  subst hll
  have := run_convert_bytes_back (P := P) w src dst el ⟨b, off, none⟩ cap l hs he hd (fun j hj => by
    rw [addr_add]
    refine hsat.cell hn ?_
    have h2 : ((cs.drop off).take l.length)[j]? = (l.map u8V)[j]? := by rw [hv]
    rw [List.getElem?_take_of_lt hj, List.getElem?_drop] at h2
    rw [h2]
    simp [hj])
  simp only [Sem.run_bind, this, Result.andThen_ok, Sem.run_pure]
theorem e_str_bytes {src dst el : TypeId} {x : Operand} {l : List UInt8} (hop : o.op = .convert src dst x) (hs : P.underlying src = some .string) (hd : P.underlying dst = some (.slice el)) (he : P.underlying el = some (.int .u8)) (hx : ev e x = strV l)
    (hl : l.length ≤ 9223372036854775807) : ERun P e Hs o (fun u H => ∃ b cap, l.length ≤ cap ∧ cap ≤ 9223372036854775807 ∧ u = slc b 0 l.length cap ∧ H = row b el (l.map u8V ++ List.replicate (cap - l.length) (u8V 0)) :: Hs) := by
  intro W0 w hsat
  have hg := grownCap_bound w l.length 0 el hl
  let cap := grownCap w l.length 0 el
  have hq : (Question.appendCap l.length 0 el).forced = false := rfl
  have hcs : (l.toArray.map fun b => Value.int .u8 b.toNat) ++ Array.replicate (cap - l.length) (Value.int .u8 0) = (l.map u8V ++ List.replicate (cap - l.length) (u8V 0)).toArray := by
    apply Array.ext'
    simp
  have hsz : (l.map u8V ++ List.replicate (cap - l.length) (u8V 0)).length = cap := by simp; omega
  let O := Obj.cells (l.map u8V ++ List.replicate (cap - l.length) (u8V 0)).toArray el
  have hrun : (execOp (ev e) o).run P w = .ok (.value (slc w.heap.size 0 l.length cap)) ((w.drew.alloc O).freeze { block := w.heap.size, off := cap } 1) := by
    unfold execOp; rw [hop]; simp only [hx]
    simp only [convert, Sem.run_bind, run_underlying' hs, run_underlying' hd, Result.andThen_ok, run_underlying' he, Conv.stringToBytes, run_choose, bytes_size, hq, Bool.false_eq_true, if_false]
    have hsh : (w.drew.alloc O).shape? w.heap.size = some (el, cap) := by
      unfold World.shape?
      have : (w.drew.alloc O).heap[w.heap.size]? = some O := by show (w.heap.push O)[w.heap.size]? = _; simp
      rw [this]
      show some (el, (l.map u8V ++ List.replicate (cap - l.length) (u8V 0)).toArray.size) = _
      rw [List.size_toArray, hsz]
    rw [show (Question.appendCap l.length 0 el).cut (w.tape w.drawn (Question.appendCap l.length 0 el)) = cap from rfl, hcs]
    have hn : (newRow el (l.map u8V ++ List.replicate (cap - l.length) (u8V 0)).toArray).run P w.drew = .ok ⟨w.heap.size, 0, none⟩ (w.drew.alloc O) := rfl
    simp only [World.drew_eq]
    simp only [Sem.run_bind, hn, Result.andThen_ok, markStringish, run_shape, hsh, run_freeze, Sem.run_pure]
  have s1 := hsat.drew.alloc O
  have hb : ((w.drew.alloc O).freeze { block := w.heap.size, off := cap } 1).heap[w.heap.size]? = some (.cells (l.map u8V ++ List.replicate (cap - l.length) (u8V 0)).toArray el (cap, cap + 1)) := by
    have h0 : (w.drew.alloc O).heap[w.heap.size]? = some O := by show (w.heap.push O)[w.heap.size]? = _; simp
    simp only [World.freeze, Nat.one_ne_zero, if_false, Array.getElem?_modify, if_true, h0, Option.map_some]
    rfl
  have s2 := s1.put (i := 0) (o' := .cells (l.map u8V ++ List.replicate (cap - l.length) (u8V 0)).toArray el (cap, cap + 1)) rfl (w' := (w.drew.alloc O).freeze { block := w.heap.size, off := cap } 1)
    ⟨rfl, rfl, rfl, by simp [World.freeze]⟩ hb (fun k hk _ => by simp only [World.freeze, Nat.one_ne_zero, if_false, Array.getElem?_modify]; exact if_neg (fun h => hk h.symm))
  refine ⟨_, _, _, .inl hrun, ⟨w.heap.size, cap, hg.1, hg.2, rfl, rfl⟩, s2.mono (Ent.cons (row_of_block fun i hi => by omega) (Ent.refl _))⟩

/-! literals -/
/-- The parts of a literal, laid over its zero value. -/
def layAll (places : List (Nat × Nat)) : List Value → List (Nat × List Value) → Option (List Value)
  | cs, [] => some cs
  | cs, (i, vs) :: r => match nth places i with
    | none => none
    | some (off, sz) => if Nat.beq vs.length sz && Nat.ble (off + sz) cs.length then layAll places (lay cs off vs) r else none
theorem foldl_lay : ∀ (vs : List Value) (cs : List Value) (off k : Nat), ((vs.zipIdx k).foldl (fun cs (c : Value × Nat) => cs.set (off + c.2) c.1) cs) = lay cs (off + k) vs
  | [], cs, off, k => rfl
  | v :: vs, cs, off, k => by
    rw [List.zipIdx_cons, List.foldl_cons, foldl_lay vs _ off (k + 1)]
    rfl
theorem fill_lay {places : List (Nat × Nat)} {place : Nat → Option (Nat × Nat)} : ∀ (ps : List (Nat × Value)) (cs cs' : List Value), (∀ p ∈ ps, place p.1 = nth places p.1) →
    layAll places cs (ps.map fun p => (p.1, p.2.cells.toList)) = some cs' → Instr.fill place cs.toArray ps = some cs'.toArray
  | [], cs, cs', _, h => by simp only [List.map_nil, layAll, Option.some.injEq] at h; subst h; rfl
  | (i, v) :: ps, cs, cs', hp, h => by
    simp only [List.map_cons, layAll] at h
    unfold Instr.fill
    rw [hp _ (List.mem_cons_self ..)]
    simp only
    cases hn : nth places i with
    | none => rw [hn] at h; cases h
    | some q =>
      obtain ⟨off, sz⟩ := q
      rw [hn] at h
      simp only at h ⊢
      split at h
      · rename_i hc
        simp only [Bool.and_eq_true] at hc
        have c1 := Nat.eq_of_beq_eq_true hc.1
        have c2 := Nat.le_of_ble_eq_true hc.2
        have hsz : v.cells.size = sz := by rw [← Array.length_toList]; exact c1
        have h2 : (v.cells.size ≠ sz || decide (off + v.cells.size > cs.toArray.size)) = false := by
          simp only [hsz, List.size_toArray]
          simp
          omega
        rw [if_neg (by rw [hsz]; simp; omega)]
        have h3 : (v.cells.zipIdx.foldl (fun cs (c : Value × Nat) => cs.setIfInBounds (off + c.2) c.1) cs.toArray) = (lay cs off v.cells.toList).toArray := by
          have : ∀ (l : List (Value × Nat)) (cs : List Value), (l.foldl (fun cs (c : Value × Nat) => cs.setIfInBounds (off + c.2) c.1) cs.toArray) = (l.foldl (fun cs (c : Value × Nat) => cs.set (off + c.2) c.1) cs).toArray := by
            intro l
            induction l with
            | nil => intro cs; rfl
            | cons p l ih => intro cs; rw [List.foldl_cons, List.foldl_cons, ← ih]; simp
          rw [← Array.foldl_toList, Array.toList_zipIdx, this, foldl_lay]
          rfl
        rw [h3]
        exact fill_lay ps _ _ (fun p hp' => hp p (List.mem_cons_of_mem _ hp')) h
      · cases h
/-- Where a struct's fields lie: offset, cells. -/
def Places (P : Program) (t : TypeId) (places : List (Nat × Nat)) : Prop :=
  ∃ fs, P.underlying t = some (.struct fs) ∧ (∀ w, (fs.mapM fun f => do pure (f.offset, ← sizeOf f.type) : Sem (Array (Nat × Nat))).run P w = .ok places.toArray w)
theorem p_build {t : TypeId} {parts : Array (Nat × Operand)} {places : List (Nat × Nat)} {sz bytes : Nat} {z cs : List Value} (hop : o.op = .build t parts) (hp : Places P t places) (hi : TyInfo P t sz bytes z)
    (hc : layAll places z (parts.toList.map fun p => (p.1, (ev e p.2).cells.toList)) = some cs) : PRun P e o (.agg cs.toArray) := by
  intro w; unfold execOp; rw [hop]
  obtain ⟨fs, h1, h2⟩ := hp
  obtain ⟨zv, hz, hr⟩ := run_zeroValue' (w := w) hi
  have hf := fill_lay (place := (places.toArray[·]?)) (places := places) ((parts.map fun (i, x) => (i, ev e x)).toList) z cs (fun p _ => by rw [nth_eq]; simp) (by
    rw [← hc]; simp [List.map_map]; rfl)
  simp only [Instr.build, Sem.run_bind, hr, Result.andThen_ok, run_underlying' h1, h2, hz]
  rw [hf]
  rfl
theorem e_buildSlice {t el : TypeId} {n : Nat} {parts : Array (Nat × Operand)} {sz bytes : Nat} {z cs : List Value} (hop : o.op = .buildSlice t n parts) (ht : P.underlying t = some (.slice el)) (hi : TyInfo P el sz bytes z) (hzl : z.length = sz) (hn : n * sz ≤ 16777216)
    (hc : layAll ((List.range n).map fun i => (i * sz, sz)) (zeros n z) (parts.toList.map fun p => (p.1, (ev e p.2).cells.toList)) = some cs) (hpl : ∀ p ∈ parts.toList, p.1 < n) :
    ERun P e Hs o (fun u H => ∃ b, u = slc b 0 n n ∧ H = row b el cs :: Hs) := by
  intro W0 w hsat
  obtain ⟨inf, zv, hi1, hi2, hi3, hi4, hi5⟩ := hi
  have hzv : zv.cells = z.toArray := by rw [← hi5]
  obtain ⟨b, w', r1, r2⟩ := run_newRow (P := P) hsat el cs
  refine ⟨slc b 0 n n, w', _, .inl ?_, ⟨b, rfl, rfl⟩, r2⟩
  have hf := fill_lay (place := fun i => some (i * sz, sz)) (places := (List.range n).map fun i => (i * sz, sz)) ((parts.map fun (i, x) => (i, ev e x)).toList) (zeros n z) cs (fun p hp => by
    have hp' : ∃ q ∈ parts.toList, p = (q.1, ev e q.2) := by
      simp only [Array.toList_map, List.mem_map] at hp
      obtain ⟨q, hq, rfl⟩ := hp
      exact ⟨q, hq, rfl⟩
    obtain ⟨q, hq, rfl⟩ := hp'
    rw [nth_eq]
    simp [hpl q hq]) (by rw [← hc]; simp [List.map_map]; rfl)
  unfold execOp; rw [hop]
  have h24 : ¬ (n * sz > 2 ^ 24) := by
    have : (2 : Nat) ^ 24 = 16777216 := by decide
    omega
  simp only [Instr.buildSlice, Sem.run_bind, run_underlying' ht, Result.andThen_ok, sizeOf, typeInfo, run_program, hi1, Sem.run_pure, hi2, h24, if_false]
  by_cases hz0 : n * sz = 0
  · rw [if_pos hz0]
    have hz1 : zeros n z = [] := List.eq_nil_of_length_eq_zero (by rw [zeros_length, hzl]; exact hz0)
    rw [hz1] at hf
    have e2 : (Array.range (n * sz)).map ((#[] : Array Value)[· % (#[] : Array Value).size]!) = ([] : List Value).toArray := by rw [hz0]; simp
    simp only [Sem.run_bind, Sem.run_pure, Result.andThen_ok]
    rw [e2, hf]
    simp only [Sem.run_bind, r1, Result.andThen_ok, Sem.run_pure]
  · rw [if_neg hz0]
    simp only [Sem.run_bind, zeroValue, typeInfo, run_program, Result.andThen_ok, hi1, Sem.run_pure, hi4]
    have e2 : (Array.range (n * sz)).map (zv.cells[· % zv.cells.size]!) = (zeros n z).toArray := by
      rw [← zeros_eq, hzl, hzv]
      simp only [Array.toArray_toList, List.size_toArray, hzl]
    rw [e2, hf]
    simp only [Sem.run_bind, r1, Result.andThen_ok, Sem.run_pure]

/-! calls -/
theorem callable_run {f : FuncId} {args : Array Value} {w : World} (h : Callable P f) : (callFunc f args).run P w = .ok (.enter f args) w := by
  obtain ⟨fn, h1, h2, h3⟩ := h
  simp only [callFunc, Sem.run_bind, run_program, Result.andThen_ok, h1, h2, Bool.false_eq_true, if_false, h3]
  rfl
theorem c_call {f : FuncId} {xs : Array Operand} {ats : Array TypeId} {args : List Value} (hop : o.op = .call { callee := .value (.func f), args := xs, argTypes := ats }) (ha : xs.toList.map (ev e) = args) : CRun P e o f args := by
  intro hc w; unfold execOp; rw [hop]
  have : xs.map (ev e) = args.toArray := by rw [← ha]; apply Array.ext'; simp
  simp only [resolve, ev, Deferred.ofValue, Sem.run_bind, Sem.run_pure, Result.andThen_ok, invoke, this]
  rw [callable_run hc]
  simp
end more
end Go.Sl
