/-
  Structs and arrays of plain numbers compared; maps whose keys are such. It proves nothing of the program by itself.
-/
import Derived.Test.YtokbjejbgbdkoaaGreatDoorGSl9
import Derived.DeepKeys3
set_option linter.unusedVariables false
set_option linter.unusedSimpArgs false
namespace Go.Sl
open Go

/-- These cells are a value of this type: numbers, truths, texts alone. -/
def Plain (P : Program) (t : TypeId) (cs : List Value) : Prop := ∃ D L, P.keyLits D t cs = some L
structure KeyTy (P : Program) (t : TypeId) : Prop where
  key : P.keyTypeAt 9 t = true
  tiled : P.tiled 9 t = true
  agg : (match P.underlying t with | some (.array _ _) | some (.struct _) => true | _ => false) = true
  guard : P.eqGuardType P.depth t = false
section
variable {P : Program} {t : TypeId}
theorem keyLits_size {D : Nat} {cs : List Value} {L : List Lit} (ha : (match P.underlying t with | some (.array _ _) | some (.struct _) => true | _ => false) = true) (h : P.keyLits D t cs = some L) : cs.length = P.cellsOf t := by
  cases D with
  | zero => simp [Program.keyLits] at h
  | succ D =>
    unfold Program.keyLits at h
    split at ha
    · rename_i hu
      simp only [hu] at h
      split at h
      · assumption
      · cases h
    · rename_i hu
      simp only [hu] at h
      split at h
      · rename_i hc; exact hc.1
      · cases h
    · cases ha
theorem formed_agg {cs : List Value} (ha : (match P.underlying t with | some (.array _ _) | some (.struct _) => true | _ => false) = true) (hl : cs.length = P.cellsOf t) : (Value.agg cs.toArray).formed P t = true := by
  unfold Value.formed
  split at ha
  · rename_i hu; simp [hu, hl]
  · rename_i hu; simp [hu, hl]
  · cases ha
theorem toCell_inj {a b : Lit} (ha : a.keyWf) (hb : b.keyWf) (h : a.toCell = b.toCell) : a = b := by
  cases a <;> cases b <;> simp_all [Lit.keyWf, Lit.toCell]
theorem lits_inj : ∀ {L L' : List Lit}, (∀ c ∈ L, c.keyWf) → (∀ c ∈ L', c.keyWf) → L.map Lit.toCell = L'.map Lit.toCell → L = L'
  | [], [], _, _, _ => rfl
  | [], _ :: _, _, _, h => by simp at h
  | _ :: _, [], _, _, h => by simp at h
  | a :: L, b :: L', h1, h2, h => by
    simp only [List.map_cons, List.cons.injEq] at h
    rw [toCell_inj (h1 a (List.mem_cons_self ..)) (h2 b (List.mem_cons_self ..)) h.1, lits_inj (fun c hc => h1 c (List.mem_cons_of_mem _ hc)) (fun c hc => h2 c (List.mem_cons_of_mem _ hc)) h.2]
theorem run_equal_agg (h : KeyTy P t) {xs ys : List Value} (hx : Plain P t xs) (hy : Plain P t ys) (w : World) : ∃ r : Bool, (Op.equal t (.agg xs.toArray) (.agg ys.toArray)).run P w = .ok r w ∧ (r = true ↔ xs = ys) := by
  obtain ⟨D, L, hL⟩ := hx
  obtain ⟨D', L', hL'⟩ := hy
  obtain ⟨r, hr, hiff⟩ := run_equalIn_deep 9991 9 t h.key w D D' (.agg xs.toArray) (.agg ys.toArray) L L' (formed_agg h.agg (keyLits_size h.agg hL)) (formed_agg h.agg (keyLits_size h.agg hL')) (by simpa [Value.cells] using hL) (by simpa [Value.cells] using hL')
  have e : (r = true) ↔ xs = ys := by
    rw [hiff]
    constructor
    · rintro rfl
      rw [cells_of_lits 9 t h.tiled D xs L hL, cells_of_lits 9 t h.tiled D' ys L hL']
    · intro e
      have h1 := cells_of_lits 9 t h.tiled D xs L hL
      have h2 := cells_of_lits 9 t h.tiled D' ys L' hL'
      have h3 : L.map Lit.toCell = L'.map Lit.toCell := by rw [← h1, ← h2, e]
      subst e
      exact lits_inj (keyLits_wf hL) (keyLits_wf hL') h3
  exact ⟨r, hr, e⟩
variable {e : Env} {o : Oper} {x y : Operand} {t' : TypeId}
theorem run_guard_agg (h : KeyTy P t) {op : BinOp} {xs ys : Array Value} (w : World) : (eqGuard op t x y (.agg xs) (.agg ys)).run P w = .ok () w := by
  unfold eqGuard
  cases op <;> simp [program, h.guard, Sem.run]
theorem p_aggeql {xs ys : List Value} {p : Prop} [Decidable p] (hop : o.op = .binOp .eql t x y t') (h : KeyTy P t) (hx : ev e x = .agg xs.toArray) (hy : ev e y = .agg ys.toArray) (px : Plain P t xs) (py : Plain P t ys) (hp : p ↔ xs = ys) : PRun P e o (.bool (decide p)) := by
  intro w; unfold execOp; rw [hop]; simp only [hx, hy]
  obtain ⟨r, hr, hi⟩ := run_equal_agg h px py w
  have hd : r = decide p := by cases r <;> simp_all
  simp only [Sem.run_bind, run_guard_agg h, Result.andThen_ok]
  show ((binOp .eql t (.agg xs.toArray) (.agg ys.toArray)).run P w).andThen _ = _
  unfold binOp
  simp only [Sem.run_bind, hr, Result.andThen_ok, Sem.run_pure, hd]
theorem p_aggneq {xs ys : List Value} {p : Prop} [Decidable p] (hop : o.op = .binOp .neq t x y t') (h : KeyTy P t) (hx : ev e x = .agg xs.toArray) (hy : ev e y = .agg ys.toArray) (px : Plain P t xs) (py : Plain P t ys) (hp : p ↔ xs = ys) : PRun P e o (.bool (decide (¬ p))) := by
  intro w; unfold execOp; rw [hop]; simp only [hx, hy]
  obtain ⟨r, hr, hi⟩ := run_equal_agg h px py w
  have hd : (!r) = decide (¬ p) := by cases r <;> simp_all
  simp only [Sem.run_bind, run_guard_agg h, Result.andThen_ok]
  show ((binOp .neq t (.agg xs.toArray) (.agg ys.toArray)).run P w).andThen _ = _
  unfold binOp
  simp only [Sem.run_bind, hr, Result.andThen_ok, Sem.run_pure, hd]
end
/-! ### Maps -/
def ents : Nat → List (List Value × Value) → List MapEntry
  | _, [] => []
  | i, (k, v) :: r => { key := .agg k.toArray, val := v, born := i } :: ents (i + 1) r
/-- Block b is a map of these keys and values, in the order in which they came. -/
def mp (b : Nat) (kvs : List (List Value × Value)) : Assn := blk b (.map (ents 0 kvs).toArray kvs.length)
theorem ents_length : ∀ (i : Nat) (kvs : List (List Value × Value)), (ents i kvs).length = kvs.length
  | _, [] => rfl
  | i, _ :: r => by rw [ents, List.length_cons, ents_length, List.length_cons]
theorem ents_get : ∀ (i : Nat) (kvs : List (List Value × Value)) (j : Nat), (ents i kvs)[j]? = kvs[j]?.map fun kv => { key := .agg kv.1.toArray, val := kv.2, born := i + j }
  | _, [], _ => rfl
  | i, (k, v) :: r, 0 => rfl
  | i, _ :: r, j + 1 => by
    rw [ents, List.getElem?_cons_succ, ents_get (i + 1) r j, List.getElem?_cons_succ, show i + 1 + j = i + (j + 1) from by omega]
theorem ents_push : ∀ (i : Nat) (kvs : List (List Value × Value)) (k : List Value) (v : Value), ents i (kvs ++ [(k, v)]) = ents i kvs ++ [{ key := .agg k.toArray, val := v, born := i + kvs.length }]
  | i, [], k, v => rfl
  | i, (k0, v0) :: r, k, v => by
    rw [List.cons_append, ents, ents, ents_push (i + 1) r, List.cons_append, List.length_cons, show i + 1 + r.length = i + (r.length + 1) from by omega]
theorem ents_set : ∀ (i : Nat) (kvs : List (List Value × Value)) (j : Nat) (k : List Value) (v : Value), ents i (kvs.set j (k, v)) = (ents i kvs).modify j (fun e => { e with key := .agg k.toArray, val := v })
  | _, [], j, _, _ => by cases j <;> rfl
  | i, (k0, v0) :: r, 0, k, v => rfl
  | i, (k0, v0) :: r, j + 1, k, v => by
    rw [List.set_cons_succ, ents, ents, ents_set (i + 1) r j k v]
    rfl
/-- The value of a key; the first of that key. -/
noncomputable def look : List (List Value × Value) → List Value → Option (Nat × Value)
  | [], _ => none
  | (k', v) :: r, k => open Classical in if k = k' then some (0, v) else (look r k).map fun x => (x.1 + 1, x.2)
theorem look_none : ∀ {kvs : List (List Value × Value)} {k : List Value}, (∀ kv ∈ kvs, kv.1 ≠ k) → look kvs k = none
  | [], _, _ => rfl
  | (k', v) :: r, k, h => by
    rw [look, if_neg (fun e => h _ (List.mem_cons_self ..) e.symm), look_none (fun kv hm => h kv (List.mem_cons_of_mem _ hm))]
    rfl
theorem look_some : ∀ {kvs : List (List Value × Value)} {k : List Value} {j : Nat} {v : Value}, kvs[j]? = some (k, v) → (∀ i, i < j → ∀ kv, kvs[i]? = some kv → kv.1 ≠ k) → look kvs k = some (j, v)
  | [], _, _, _, h, _ => by simp at h
  | (k', v') :: r, k, 0, v, h, _ => by
    simp at h
    obtain ⟨rfl, rfl⟩ := h
    rw [look, if_pos rfl]
  | (k', v') :: r, k, j + 1, v, h, hn => by
    rw [look, if_neg (fun e => hn 0 (by omega) _ rfl e.symm), look_some (kvs := r) (j := j) (by simpa using h) (fun i hi kv hk => hn (i + 1) (by omega) kv (by simpa using hk))]
    rfl
theorem look_get : ∀ {kvs : List (List Value × Value)} {k : List Value} {j : Nat} {v : Value}, look kvs k = some (j, v) → kvs[j]? = some (k, v)
  | [], _, _, _, h => by cases h
  | (k', v') :: r, k, j, v, h => by
    rw [look] at h
    split at h
    · rename_i e
      cases h
      rw [e]; rfl
    · obtain ⟨x, hx, e⟩ := Option.map_eq_some_iff.1 h
      cases e
      rw [List.getElem?_cons_succ]
      exact look_get hx
section
variable {P : Program} {e : Env} {o : Oper} {Hs Rs : List Assn} {x y z : Operand} {t kt el : TypeId} {kvs : List (List Value × Value)} {k zs : List Value}
/-- This can be a key of that type. -/
def Keyed (P : Program) (t : TypeId) (cs : List Value) : Prop := ∃ l, keyOf P t (.agg cs.toArray) = some l
theorem run_find (hl : WideMaps.KeyLaw P kt) (hk : Keyed P kt k) (ha : ∀ kv ∈ kvs, Keyed P kt kv.1) (hn : (kvs.map (·.1)).Nodup) (w : World) : (Instr.findKey kt (.agg k.toArray) (ents 0 kvs)).run P w = .ok (look kvs k) w := by
  obtain ⟨l, hk⟩ := hk
  have hall : ∀ e ∈ ents 0 kvs, ∃ l, keyOf P kt e.key = some l := by
    intro e he
    obtain ⟨j, hj, rfl⟩ := List.getElem_of_mem he
    have h1 := ents_get 0 kvs j
    rw [List.getElem?_eq_getElem hj] at h1
    rw [ents_length] at hj
    rw [List.getElem?_eq_getElem hj, Option.map_some, Option.some.injEq] at h1
    rw [h1]
    exact ha _ (List.getElem_mem hj)
  rcases hl.find w hk (ents 0 kvs) hall with ⟨h1, h2⟩ | ⟨j, e, h1, h2, h3⟩
  · rw [h1, look_none]
    intro kv hm hkv
    obtain ⟨j, hj, rfl⟩ := List.getElem_of_mem hm
    have h4 := ents_get 0 kvs j
    rw [List.getElem?_eq_getElem hj] at h4
    exact h2 _ (List.mem_of_getElem? h4) (by rw [← hkv])
  · rw [h1]
    rw [ents_get] at h2
    cases hj : kvs[j]? with
    | none => rw [hj] at h2; cases h2
    | some kv =>
      rw [hj, Option.map_some, Option.some.injEq] at h2
      subst h2
      have hkv : kv.1 = k := by
        have := congrArg Value.cells h3
        simpa [Value.cells] using congrArg Array.toList this
      rw [look_some (j := j) (v := kv.2) (by rw [hj, ← hkv])]
      intro i hi kv' hi' e
      have hjl : j < kvs.length := (List.getElem?_eq_some_iff.1 hj).1
      have hil : i < kvs.length := by omega
      have h7 := List.pairwise_iff_getElem.1 hn i j (by simpa using hil) (by simpa using hjl) hi
      apply h7
      rw [List.getElem?_eq_getElem hil, Option.some.injEq] at hi'
      rw [List.getElem?_eq_getElem hjl, Option.some.injEq] at hj
      rw [List.getElem_map, List.getElem_map, hi', hj, e, hkv]
theorem Sat.getMap {W0 w : World} {i b : Nat} (s : Sat W0 (sep Hs) w) (h : nth Hs i = some (mp b kvs)) : (getObj b).run P w = .ok (.map (ents 0 kvs).toArray kvs.length) w := by
  have := s.get h
  simp [getObj, Sem.run, this]
/-- The zero value of a type. -/
def ZeroIs (P : Program) (t : TypeId) (v : Value) : Prop := ∃ i, P.info? t = some i ∧ i.zero = some v
theorem run_zeroIs {v : Value} (h : ZeroIs P t v) (w : World) : (zeroValue t).run P w = .ok v w := by
  obtain ⟨i, h1, h2⟩ := h
  simp [zeroValue, typeInfo, h1, h2]
theorem e_makeMap (hop : o.op = .makeMap t none) : ERun P e Hs o (fun u H => ∃ b, u = .map (some b) ∧ H = mp b [] :: Hs) := by
  intro W0 w hs
  refine ⟨.map (some w.heap.size), w.alloc (.map #[] 0), _, .inl ?_, ⟨w.heap.size, rfl, rfl⟩, hs.alloc _⟩
  unfold execOp; rw [hop]
  rfl
theorem run_lookup {W0 w : World} {i b : Nat} {ok : Bool} {zv : Value} (s : Sat W0 (sep Hs) w) (ht : P.underlying t = some (.map kt el)) (hl : WideMaps.KeyLaw P kt) (hz : ZeroIs P el zv) (hk : Keyed P kt k) (ha : ∀ kv ∈ kvs, Keyed P kt kv.1) (hn : (kvs.map (·.1)).Nodup) (h : nth Hs i = some (mp b kvs)) :
    (Instr.lookup t (.map (some b)) (.agg k.toArray) ok).run P w = .ok (if ok then .tuple #[(look kvs k).elim zv (·.2), .bool (look kvs k).isSome] else (look kvs k).elim zv (·.2)) w := by
  unfold Instr.lookup
  have h1 := run_find hl hk ha hn w
  obtain ⟨l, hk⟩ := hk
  simp only [Sem.run_bind, run_underlying' ht, Result.andThen_ok, s.getMap h, Sem.run_pure, hl.check w _ hk, List.toList_toArray, h1]
  cases look kvs k with
  | none => simp only [Sem.run_bind, run_zeroIs hz, Result.andThen_ok, Sem.run_pure]; cases ok <;> rfl
  | some x => simp only [Sem.run_pure, Result.andThen_ok]; cases ok <;> rfl
theorem q_lookup {i b : Nat} {ok : Bool} {zv : Value} (hop : o.op = .lookup t x y ok) (ht : P.underlying t = some (.map kt el)) (hl : WideMaps.KeyLaw P kt) (hz : ZeroIs P el zv) (hx : ev e x = .map (some b)) (hy : ev e y = .agg k.toArray) (hn : nth Rs i = some (mp b kvs)) (hk : Keyed P kt k) (ha : ∀ kv ∈ kvs, Keyed P kt kv.1) (hd : (kvs.map (·.1)).Nodup) :
    QRun P e Rs o (if ok then .tuple #[(look kvs k).elim zv (·.2), .bool (look kvs k).isSome] else (look kvs k).elim zv (·.2)) := by
  intro W0 w hs; unfold execOp; rw [hop]; simp only [hx, hy]
  simp only [Sem.run_bind, run_lookup hs ht hl hz hk ha hd hn, Result.andThen_ok, Sem.run_pure]
theorem run_setMap {W0 w : World} {i b : Nat} {kvs' : List (List Value × Value)} {m : Array MapEntry} {c : Nat} (s : Sat W0 (sep Hs) w) (h : nth Hs i = some (mp b kvs)) (hm : m = (ents 0 kvs').toArray) (hc : c = kvs'.length) :
    ∃ w', (setObj b (.map m c)).run P w = .ok () w' ∧ Sat W0 (sep (setN Hs i (mp b kvs'))) w' := by
  subst hm hc
  have hb := s.get h
  have hlt : b < w.heap.size := by
    rcases Nat.lt_or_ge b w.heap.size with g | g
    · exact g
    · rw [Array.getElem?_eq_none g] at hb; cases hb
  refine ⟨{ w with heap := w.heap.setIfInBounds b (.map (ents 0 kvs').toArray kvs'.length) }, by simp [setObj, Sem.run, hb], s.put h ⟨rfl, rfl, rfl, by simp⟩ ?_ (fun k hk _ => ?_)⟩
  · simp [Array.getElem?_setIfInBounds, hlt]
  · simp [Array.getElem?_setIfInBounds, Ne.symm hk]
theorem e_mapEntry {i b : Nat} {zv : Value} (hop : o.op = .mapEntry t x y) (ht : P.underlying t = some (.map kt el)) (hl : WideMaps.KeyLaw P kt) (hz : ZeroIs P el zv) (hx : ev e x = .map (some b)) (hy : ev e y = .agg k.toArray) (hn : nth Hs i = some (mp b kvs)) (hk : Keyed P kt k) (ha : ∀ kv ∈ kvs, Keyed P kt kv.1) (hd : (kvs.map (·.1)).Nodup) :
    ERun P e Hs o (fun u H => u = .tuple #[(look kvs k).elim zv (·.2), .int .i64 ((look kvs k).elim kvs.length (·.1) : Nat)] ∧ H = setN Hs i (mp b ((look kvs k).elim (kvs ++ [(k, zv)]) (fun _ => kvs)))) := by
  intro W0 w hs
  have h1 := run_find hl hk ha hd w
  obtain ⟨l, hk⟩ := hk
  have key : ∃ w', (Instr.mapEntry t (.map (some b)) (.agg k.toArray)).run P w = .ok (.tuple #[(look kvs k).elim zv (·.2), .int .i64 ((look kvs k).elim kvs.length (·.1) : Nat)]) w' ∧ Sat W0 (sep (setN Hs i (mp b ((look kvs k).elim (kvs ++ [(k, zv)]) (fun _ => kvs))))) w' := by
    unfold Instr.mapEntry
    simp only [Sem.run_bind, run_underlying' ht, Result.andThen_ok, hs.getMap hn, hl.check w _ hk, h1]
    cases hlk : look kvs k with
    | none =>
      obtain ⟨w', a1, a2⟩ := run_setMap (P := P) (kvs' := kvs ++ [(k, zv)]) (m := (ents 0 kvs).toArray.push { key := .agg k.toArray, val := zv, born := kvs.length }) (c := kvs.length + 1) hs hn (by rw [ents_push]; simp) (by simp)
      refine ⟨w', ?_, a2⟩
      simp only [Sem.run_bind, run_zeroIs hz, Result.andThen_ok, a1, Sem.run_pure]
      rfl
    | some p =>
      obtain ⟨j, v⟩ := p
      have hj := look_get hlk
      have hjl : j < kvs.length := (List.getElem?_eq_some_iff.1 hj).1
      have he : (ents 0 kvs).toArray[j]? = some { key := .agg k.toArray, val := v, born := j } := by
        rw [List.getElem?_toArray, ents_get, hj]; simp
      obtain ⟨w', a1, a2⟩ := run_setMap (P := P) (kvs' := kvs) (m := (ents 0 kvs).toArray.modify j fun e => { e with key := .agg k.toArray }) (c := kvs.length) hs hn (by
        apply Array.ext'
        apply List.ext_getElem?
        intro n
        rw [Array.getElem?_toList, Array.getElem?_modify, Array.getElem?_toList]
        by_cases hnj : j = n
        · subst hnj; rw [if_pos rfl, he]; rfl
        · rw [if_neg hnj]) rfl
      refine ⟨w', ?_, a2⟩
      simp only [Sem.run_bind, he, Option.map_some, Option.getD_some, hl.stays w hk, Result.andThen_ok, a1, Sem.run_pure]
      rfl
  obtain ⟨w', a1, a2⟩ := key
  refine ⟨_, w', _, .inl ?_, ⟨rfl, rfl⟩, a2⟩
  unfold execOp; rw [hop]; simp only [hx, hy, Sem.run_bind, a1, Result.andThen_ok, Sem.run_pure]
theorem find_born : ∀ (i : Nat) (kvs : List (List Value × Value)) (j : Nat), j < kvs.length → (ents i kvs).findIdx? (fun e => (e.born : Int) == ((i + j : Nat) : Int)) = some j
  | i, (k, v) :: r, 0, _ => by simp [ents, List.findIdx?_cons]
  | i, (k, v) :: r, j + 1, h => by
    rw [ents, List.findIdx?_cons, if_neg (by simp; omega), show i + (j + 1) = i + 1 + j from by omega, find_born (i + 1) r j (by simpa using h)]
    rfl
theorem e_entryStore {i b j : Nat} {v v0 : Value} {k0 : List Value} (hop : o.op = .entryStore t x y z) (hx : ev e x = .map (some b)) (hy : ev e y = .int .i64 (j : Int)) (hz : ev e z = v) (hn : nth Hs i = some (mp b kvs)) (hj : kvs[j]? = some (k0, v0)) :
    ERun P e Hs o (fun u H => u = undef ∧ H = setN Hs i (mp b (kvs.set j (k0, v)))) := by
  intro W0 w hs
  have hjl : j < kvs.length := (List.getElem?_eq_some_iff.1 hj).1
  have he : (ents 0 kvs)[j]? = some { key := .agg k0.toArray, val := v0, born := j } := by
    rw [ents_get, hj]; simp
  obtain ⟨w', a1, a2⟩ := run_setMap (P := P) (kvs' := kvs.set j (k0, v)) (m := (ents 0 kvs).toArray.modify j fun e => { e with val := v }) (c := kvs.length) hs hn (by
    apply Array.ext'
    apply List.ext_getElem?
    intro n
    rw [Array.getElem?_toList, Array.getElem?_modify, ents_set, List.getElem?_modify, List.getElem?_toArray]
    by_cases hnj : j = n
    · subst hnj; simp [he]
    · simp [hnj]) (by simp)
  refine ⟨undef, w', _, .inr ⟨?_, rfl⟩, ⟨rfl, rfl⟩, a2⟩
  unfold execOp; rw [hop]; simp only [hx, hy, hz]
  have hf := find_born 0 kvs j hjl
  rw [Nat.zero_add] at hf
  simp only [Instr.entryStore, Sem.run_bind, hs.getMap hn, Result.andThen_ok, asInt, asIntOf, Sem.run_pure, List.findIdx?_toArray, hf, a1]
end
end Go.Sl
namespace Go.Sl
open Go
/-- A slice of n elements of these cells: its memory is not ours to write. -/
def view (sz : Nat) (v : Value) (n : Nat) (vs : List Value) : Assn := fun h =>
  vs.length = n * sz ∧ ∃ q cap, v = .slice q n cap ∧ n ≤ cap ∧ cap ≤ 9223372036854775807 ∧ (0 < n → ∃ b off, q = some ⟨b, off, none⟩ ∧ cellsAt b off vs h)
/-- v[l:h]. -/
def subSl (sz : Nat) (v : Value) (l h : Nat) : Value := match v with
  | .slice q _ cap => .slice (if cap = l then q else q.map (·.add (l * sz))) (h - l) (cap - l)
  | v => v
theorem cellsAt_row {b off : Nat} {T : TypeId} {cs vs : List Value} (h : (cs.drop off).take vs.length = vs) : ∀ x, row b T cs x → cellsAt b off vs x := by
  rintro x ⟨lo, hi, hx, _⟩ k v hk
  refine ⟨_, _, _, hx, ?_⟩
  have hkl : k < vs.length := (List.getElem?_eq_some_iff.1 hk).1
  rw [← h, List.getElem?_take, if_pos hkl, List.getElem?_drop] at hk
  simpa using hk
theorem cellsAt_sub {b off : Nat} {vs : List Value} {l m : Nat} : ∀ x, cellsAt b off vs x → cellsAt b (off + l) ((vs.drop l).take m) x := by
  intro x h k v hk
  rw [List.getElem?_take] at hk
  split at hk
  · rw [List.getElem?_drop] at hk
    obtain ⟨c, T, f, h1, h2⟩ := h _ _ hk
    exact ⟨c, T, f, h1, by rw [Nat.add_assoc]; exact h2⟩
  · cases hk
theorem view_of_row {b off n cap sz : Nat} {T : TypeId} {cs ys : List Value} (hl : off + n * sz ≤ cs.length) (hy : (cs.drop off).take (n * sz) = ys) (hc : n ≤ cap) (hm : cap ≤ 9223372036854775807) : Ent (row b T cs) (view sz (slc b off n cap) n ys) :=
  Ent.of_imp fun x h => by
    have hyl : ys.length = n * sz := by rw [← hy]; simp; omega
    exact ⟨hyl, _, _, rfl, hc, hm, fun _ => ⟨b, off, rfl, cellsAt_row (by rw [hyl]; exact hy) x h⟩⟩
theorem view_of_vec {el sz n : Nat} {v : Value} {xs : List Value} : Ent (vec el sz v n xs) (view sz v n xs) :=
  Ent.of_imp fun x ⟨h1, h2⟩ => by
    refine ⟨h1, ?_⟩
    rcases h2 with ⟨rfl, rfl⟩ | ⟨b, cap, rest, rfl, h3, h4, h5, h6⟩
    · exact ⟨none, 0, rfl, Nat.le_refl _, by omega, fun h => by omega⟩
    · exact ⟨_, cap, rfl, h3, h4, fun _ => ⟨b, 0, rfl, cellsAt_row (by simp) x h6⟩⟩
theorem view_of_old {w : World} {sz n cap : Nat} {q : Option Addr} {vs : List Value} (h1 : vs.length = n * sz) (h2 : n ≤ cap) (h3 : cap ≤ 9223372036854775807) (h4 : 0 < n → ∃ b off, q = some ⟨b, off, none⟩ ∧ At w b off vs) : Ent (old w) (view sz (.slice q n cap) n vs) := by
  intro x hx
  by_cases hn : 0 < n
  · obtain ⟨b, off, rfl, ha⟩ := h4 hn
    obtain ⟨y, hy, hc⟩ := old_cellsAt ha x hx
    exact ⟨y, hy, h1, _, cap, rfl, h2, h3, fun _ => ⟨b, off, rfl, hc⟩⟩
  · exact ⟨x, Frag.le_refl x, h1, q, cap, rfl, h2, h3, fun h => absurd h hn⟩
theorem view_nil {sz : Nat} {A : Assn} : Ent A (view sz (.slice none 0 0) 0 []) :=
  Ent.of_imp fun _ _ => ⟨by simp, none, 0, rfl, Nat.le_refl _, by omega, fun h => by omega⟩
theorem view_sub {sz n l h : Nat} {v : Value} {vs : List Value} (hlh : l ≤ h) (hh : h ≤ n) : Ent (view sz v n vs) (view sz (subSl sz v l h) (h - l) ((vs.drop (l * sz)).take ((h - l) * sz))) :=
  Ent.of_imp fun x ⟨h1, q, cap, e, h2, h3, h4⟩ => by
    subst e
    have hm : (h - l) * sz + l * sz ≤ n * sz := by rw [← Nat.add_mul]; exact Nat.mul_le_mul_right _ (by omega)
    refine ⟨by rw [List.length_take, List.length_drop]; omega, _, _, rfl, by omega, by omega, fun hp => ?_⟩
    obtain ⟨b, off, rfl, hc⟩ := h4 (by omega)
    refine ⟨b, off + l * sz, ?_, cellsAt_sub x hc⟩
    rw [if_neg (by omega), Option.map_some, addr_add]
theorem Sat.view {W0 w : World} {Hs : List Assn} {i sz n : Nat} {v : Value} {vs : List Value} (s : Sat W0 (sep Hs) w) (hn : nth Hs i = some (view sz v n vs)) :
    vs.length = n * sz ∧ ∃ q cap, v = .slice q n cap ∧ n ≤ cap ∧ cap ≤ 9223372036854775807 ∧ (0 < n → ∃ b off, q = some ⟨b, off, none⟩ ∧ At w b off vs) := by
  obtain ⟨k, x, hx, h1, q, cap, e, h2, h3, h4⟩ := s.mono ((Ent.perm (perm_nth hn)).trans (Ent.head _ _))
  refine ⟨h1, q, cap, e, h2, h3, fun hp => ?_⟩
  obtain ⟨b, off, hq, hc⟩ := h4 hp
  exact ⟨b, off, hq, Sat.at (L := [cellsAt b off vs]) (i := 0) ⟨k, x, hx, x, fun _ => none, fun _ => .inr rfl, by funext y; show x y = match x y with | some o => some o | none => none; cases x y <;> rfl, hc, trivial⟩ rfl⟩
section
variable {P : Program} {e : Env} {o : Oper} {Hs Rs : List Assn}
theorem src_view {sz n i : Nat} {v : Value} {vs : List Value} (hn : nth Hs i = some (view sz v n vs)) (hl : vs.length = n * sz) : Src P Hs v n sz vs := by
  refine ⟨hl, fun W0 w hs => ?_, fun W0 w k hs hk => ?_⟩
  · obtain ⟨_, q, cap, rfl, _⟩ := hs.view hn
    rfl
  · obtain ⟨_, q, cap, rfl, _, _, h4⟩ := hs.view hn
    by_cases hp : 0 < n
    · obtain ⟨b, off, rfl, ha⟩ := h4 hp
      have hle : k * sz ≤ n * sz := Nat.mul_le_mul_right _ hk
      simp only [Builtin.firstCells]
      unfold Go.loadCells
      rw [run_loadCellsFrom (cs := vs) (fun k v hk => ha k v hk) (k * sz) 0 #[] (by omega)]
      simp
    · obtain rfl : n = 0 := by omega
      obtain rfl : k = 0 := by omega
      have : vs = [] := by simpa using hl
      subst this
      cases q with
      | none => simp [Builtin.firstCells]
      | some a => simp [Builtin.firstCells, Go.loadCells, loadCellsFrom]
theorem q_len_view {t el : TypeId} {x : Operand} {v : Value} {n sz i : Nat} {vs : List Value} (hop : o.op = .call { callee := .builtin .len, args := #[x], argTypes := #[t] }) (ht : P.underlying t = some (.slice el)) (hx : ev e x = v) (hn : nth Rs i = some (view sz v n vs)) : QRun P e Rs o (.int .i64 n) := by
  intro W0 w hs
  obtain ⟨_, q, cap, rfl, _⟩ := hs.view hn
  exact p_len hop ht hx w
theorem run_sliceAny {t el : TypeId} {x : Operand} {lo hi : Option Operand} {q : Option Addr} {n cap sz l h : Nat} (hop : o.op = .slice t x lo hi none) (ht : P.underlying t = some (.slice el)) (hsz : TySize P el sz) (hx : ev e x = .slice q n cap)
    (hl : loOf e lo = some (l : Int)) (hh : hiOf e n hi = some (h : Int)) (hb : l ≤ h ∧ h ≤ cap) : PRun P e o (.slice (if cap = l then q else q.map (·.add (l * sz))) (h - l) (cap - l)) := by
  intro w; unfold execOp; rw [hop]; simp only [hx]
  simp only [Instr.sliceAt, Instr.slice, Sem.run_bind, run_underlying' ht, Result.andThen_ok, Option.map_none]
  have := run_bounds (P := P) (s := true) hl hh (cap := cap) (by omega) (w := w)
  simp only [Result.andThen_ok, Sem.run_pure, this, run_sizeOf' hsz]
  cases q <;> (simp; try (split <;> simp_all))
theorem q_viewSlice {t el : TypeId} {x : Operand} {lo hi : Option Operand} {v : Value} {n sz l h i : Nat} {vs : List Value} (hop : o.op = .slice t x lo hi none) (ht : P.underlying t = some (.slice el)) (hsz : TySize P el sz) (hx : ev e x = v) (hn : nth Rs i = some (view sz v n vs))
    (hl : loOf e lo = some (l : Int)) (hh : hiOf e n hi = some (h : Int)) (hb : l ≤ h ∧ h ≤ n) : QRun P e Rs o (subSl sz v l h) := by
  intro W0 w hs
  obtain ⟨_, q, cap, rfl, h2, _⟩ := hs.view hn
  exact run_sliceAny hop ht hsz hx hl hh (by omega) w
theorem q_loadCA {t : TypeId} {x : Operand} {b off j i sz : Nat} {vs us : List Value} (hop : o.op = .load t x) (ht : IsAgg P t) (hsz : TySize P t sz) (hx : ev e x = ptr b (off + j)) (hn : nth Rs i = some (cellsAt b off vs)) (hl : j + sz ≤ vs.length) (hu : (vs.drop j).take sz = us) : QRun P e Rs o (.agg us.toArray) := by
  subst hu
  refine QRun.ent ((Ent.perm (perm_nth hn)).trans ((Ent.head _ _).trans ((Ent.of_imp (B := cellsAt b (off + j) ((vs.drop j).take sz)) fun x h => cellsAt_sub x h).trans Ent.one))) (q_loadC hop ht hsz hx (i := 0) rfl (by simp; omega))
end
theorem Sat.openView {W0 w : World} {Hs : List Assn} {i sz n : Nat} {v : Value} {vs : List Value} (hs : Sat W0 (sep Hs) w) (hn : nth Hs i = some (Sl.view sz v n vs)) (h0 : 0 < n) : ∃ b off cap, v = slc b off n cap ∧ n ≤ cap ∧ vs.length = n * sz ∧ Sat W0 (sep (setN Hs i (cellsAt b off vs))) w := by
  obtain ⟨kk, y, hy, f1, f2, dj, rfl, ⟨h1, q, cap, rfl, h2, h3, h4⟩, hl⟩ := hs.mono (Ent.perm (perm_nth hn))
  obtain ⟨b, off, rfl, hc⟩ := h4 h0
  exact ⟨b, off, cap, rfl, h2, h1, Sat.mono (Ent.perm (perm_setN hn)) ⟨kk, _, hy, f1, f2, dj, rfl, hc, hl⟩⟩
theorem T.openView {P : Program} {N : Nat} {Q : Post} {e : Env} {Hs : List Assn} {c : Code} (i : Nat) {sz n : Nat} {v : Value} {vs : List Value} (hn : nth Hs i = some (view sz v n vs)) (h0 : 0 < n)
    (h : ∀ b off cap, v = slc b off n cap → n ≤ cap → vs.length = n * sz → T P N c Q e (setN Hs i (cellsAt b off vs))) : T P N c Q e Hs := by
  intro W0 a w ha hs
  obtain ⟨b, off, cap, h1, h2, h3, h4⟩ := hs.openView hn h0
  exact h b off cap h1 h2 h3 W0 a w ha h4
theorem RN.openView {P : Program} {N : Nat} {ops : Array Oper} {Q : Next1} {l : List Nat} {e : Env} {Hs : List Assn} (i : Nat) {sz n : Nat} {v : Value} {vs : List Value} (hn : nth Hs i = some (view sz v n vs)) (h0 : 0 < n)
    (h : ∀ b off cap, v = slc b off n cap → n ≤ cap → vs.length = n * sz → RN P N ops Q l e (setN Hs i (cellsAt b off vs))) : RN P N ops Q l e Hs := by
  intro W0 a w ha hs
  obtain ⟨b, off, cap, h1, h2, h3, h4⟩ := hs.openView hn h0
  exact h b off cap h1 h2 h3 W0 a w ha h4
/-- Read only: what was given stays, beside the view of it. -/
theorem T.peek {P : Program} {N : Nat} {Q : Post} {e : Env} {Hs : List Assn} {c : Code} {A : Assn} {p : Prop} (h1 : ∀ x, sep Hs x → ∃ y, Frag.le y x ∧ A y) (h2 : ∀ x, A x → p) (h : p → T P N c Q e Hs) : T P N c Q e Hs := by
  intro W0 a w ha hs
  have hs2 := hs
  obtain ⟨_, x, _, hx⟩ := hs2
  obtain ⟨y, _, hy⟩ := h1 x hx
  exact h (h2 y hy) W0 a w ha hs
theorem RN.peek {P : Program} {N : Nat} {ops : Array Oper} {Q : Next1} {l : List Nat} {e : Env} {Hs : List Assn} {A : Assn} {p : Prop} (h1 : Ent (sep Hs) A) (h2 : ∀ x, A x → p) (h : p → RN P N ops Q l e Hs) : RN P N ops Q l e Hs := by
  intro W0 a w ha hs
  have hs2 := hs
  obtain ⟨_, x, _, hx⟩ := hs2
  obtain ⟨y, _, hy⟩ := h1 x hx
  exact h (h2 y hy) W0 a w ha hs
end Go.Sl
