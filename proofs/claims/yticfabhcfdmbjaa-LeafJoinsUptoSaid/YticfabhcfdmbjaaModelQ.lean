/-
  Pages and streams, in plain words: no program in sight.
-/
import Derived.Test.YticfabhcfdmbjaaSl13
import Derived.Test.YticfabhcfdmbjaaModelP
set_option linter.unusedVariables false
set_option linter.unusedSimpArgs false
namespace Go.Mo
open Go Go.Sl
/-- A page. -/
structure Pg where
  kind : Int
  lba : Int
  seq : Int
  epoch : Int
  group : Int
  index : Int
  total : Int
  pay : List UInt8
deriving DecidableEq
abbrev u32V (n : Int) : Value := .int .u32 n
def Pg.cells (p : Pg) : List Value := [.int .i64 p.kind, u32V p.lba, u32V p.seq, u32V p.epoch, u32V p.group, u32V p.index, u32V p.total] ++ p.pay.map u8V
/-- In range. -/
def U32 (n : Int) : Prop := 0 ≤ n ∧ n < 4294967296
structure Pg.ok (p : Pg) : Prop where
  pay : p.pay.length = 32
  lba : U32 p.lba
  index : U32 p.index
  total : U32 p.total
def pgs (l : List Pg) : List Value := (l.map Pg.cells).flatten
theorem Pg.cells_length {p : Pg} (h : p.pay.length = 32) : p.cells.length = 39 := by simp [Pg.cells, h]
theorem pgs_length {l : List Pg} (h : ∀ p ∈ l, p.pay.length = 32) : (pgs l).length = l.length * 39 := by
  induction l with
  | nil => rfl
  | cons p l ih =>
    rw [pgs, List.map_cons, List.flatten_cons, List.length_append, Pg.cells_length (h p (List.mem_cons_self ..))]
    have := ih (fun q hq => h q (List.mem_cons_of_mem _ hq))
    unfold pgs at this
    rw [this, List.length_cons]
    omega
theorem pgs_push (l : List Pg) (p : Pg) : pgs (l ++ [p]) = pgs l ++ p.cells := by simp [pgs]
theorem pgs_append (l m : List Pg) : pgs (l ++ m) = pgs l ++ pgs m := by simp [pgs]
theorem pgs_get {l : List Pg} (h : ∀ p ∈ l, p.pay.length = 32) {i : Nat} (hi : i < l.length) : ((pgs l).drop (i * 39)).take 39 = l[i].cells := by
  induction l generalizing i with
  | nil => simp at hi
  | cons p l ih =>
    have hp := Pg.cells_length (h p (List.mem_cons_self ..))
    rw [pgs, List.map_cons, List.flatten_cons]
    cases i with
    | zero => rw [Nat.zero_mul, List.drop_zero, List.take_left' hp]; rfl
    | succ i =>
      rw [List.drop_append, List.drop_eq_nil_of_le (by omega), List.nil_append, hp, show (i + 1) * 39 - 39 = i * 39 from by omega]
      exact ih (fun q hq => h q (List.mem_cons_of_mem _ hq)) (by simpa using hi)
/-- How many pages so many bytes have. -/
def pagesN (n : Nat) : Nat := if n = 0 then 1 else (n + 31) / 32
def pageOf (kind epoch group : Int) (l : List UInt8) (i : Nat) : Pg :=
  { kind := kind, lba := l.length, seq := 0, epoch := epoch, group := group, index := i, total := pagesN l.length, pay := pad32 (l.drop (i * 32)) }
def cutL (kind epoch group : Int) (l : List UInt8) (k : Nat) : List Pg := (List.range k).map (pageOf kind epoch group l)
theorem cutL_succ (kind epoch group : Int) (l : List UInt8) (k : Nat) : cutL kind epoch group l (k + 1) = cutL kind epoch group l k ++ [pageOf kind epoch group l k] := by simp [cutL, List.range_succ]
theorem cutL_length (kind epoch group : Int) (l : List UInt8) (k : Nat) : (cutL kind epoch group l k).length = k := by simp [cutL]
theorem cutL_pay {kind epoch group : Int} {l : List UInt8} {k : Nat} : ∀ p ∈ cutL kind epoch group l k, p.pay.length = 32 := by
  intro p hp
  obtain ⟨i, _, rfl⟩ := List.mem_map.1 hp
  exact pad32_length _
theorem pagesN_le {n : Nat} (h : n ≤ 65536) : 1 ≤ pagesN n ∧ pagesN n ≤ 2048 ∧ (n = 0 ∧ pagesN n = 1 ∨ (pagesN n - 1) * 32 < n) ∧ n ≤ pagesN n * 32 := by
  unfold pagesN
  split <;> omega
/-- The bytes of a stream given to Cut. -/
def strm (kind epoch group : Int) (bv : Value) : List Value := [.int .i64 kind, u32V epoch, u32V group, bv]
theorem pay_lay {kind lba seq epoch group index total : Int} (l : List UInt8) : lay ([.int .i64 kind, u32V lba, u32V seq, u32V epoch, u32V group, u32V index, u32V total] ++ List.replicate 32 (u8V 0)) 7 ((l.map u8V).take (min l.length 32 * 1)) =
    Pg.cells { kind := kind, lba := lba, seq := seq, epoch := epoch, group := group, index := index, total := total, pay := pad32 l } := by
  have h := lay_pad l
  have hz : zeros 32 [Value.int .u8 0] = List.replicate 32 (u8V 0) := rfl
  rw [hz] at h
  have hlen : ((l.map u8V).take (min l.length 32 * 1)).length ≤ 32 := by rw [List.length_take]; omega
  rw [lay_eq _ _ _ (by rw [List.length_replicate]; omega), List.take_zero, List.nil_append, Nat.zero_add] at h
  generalize (l.map u8V).take (min l.length 32 * 1) = vs at h hlen
  have hp : ∀ (pre zs : List Value), pre.length = 7 → zs.length = 32 → lay (pre ++ zs) 7 vs = pre ++ (vs ++ zs.drop vs.length) := by
    intro pre zs h1 h2
    rw [lay_eq _ _ _ (by rw [List.length_append]; omega), List.take_left' h1, List.drop_append, List.drop_eq_nil_of_le (by omega), List.nil_append, h1, Nat.add_sub_cancel_left, List.append_assoc]
  rw [hp _ _ rfl (by rw [List.length_replicate]), h]
  rfl
@[simp] theorem pageOf_cells_length {kind epoch group : Int} {l : List UInt8} {i : Nat} : (pageOf kind epoch group l i).cells.length = 39 := Pg.cells_length (pad32_length _)
theorem Pg.one {p : Pg} : ∀ u ∈ p.cells, u.oneCell' = true := by
  intro u hu
  unfold Pg.cells at hu
  rcases List.mem_append.1 hu with h | h
  · simp at h
    rcases h with rfl | rfl | rfl | rfl | rfl | rfl | rfl <;> rfl
  · obtain ⟨x, _, rfl⟩ := List.mem_map.1 h
    rfl
theorem view_subU {v : Value} {l : List UInt8} {i : Nat} (hi : i ≤ l.length) : Ent (view 1 v l.length (l.map u8V)) (view 1 (subSl 1 v i l.length) (l.drop i).length ((l.drop i).map u8V)) := by
  have h := view_sub (sz := 1) (v := v) (vs := l.map u8V) hi (Nat.le_refl l.length)
  have e : ((l.map u8V).drop (i * 1)).take ((l.length - i) * 1) = (l.drop i).map u8V := by
    rw [Nat.mul_one, Nat.mul_one, List.take_of_length_le (by simp), List.map_drop]
  rw [e] at h
  rwa [List.length_drop]
theorem view_cells {sz n cap b off : Nat} {vs : List Value} (h : 0 < n) : Ent (view sz (.slice (some ⟨b, off, none⟩) n cap) n vs) (cellsAt b off vs) := Ent.of_imp fun x ⟨_, q, c, e, _, _, h4⟩ => by
  injection e with e1 _ _
  obtain ⟨b', off', e2, hc⟩ := h4 h
  rw [← e1] at e2
  injection e2 with e3
  injection e3 with e4 e5
  subst e4 e5
  exact hc
theorem view_form {sz n : Nat} {v : Value} {vs : List Value} : ∀ x, view sz v n vs x → ∃ q cap, v = .slice q n cap ∧ n ≤ cap ∧ cap ≤ 9223372036854775807 ∧ (0 < n → ∃ b off, q = some ⟨b, off, none⟩) := by
  rintro x ⟨_, q, cap, e, h2, h3, h4⟩
  exact ⟨q, cap, e, h2, h3, fun h => let ⟨b, off, hq, _⟩ := h4 h; ⟨b, off, hq⟩⟩
/-- A page whose payload is yet to come. -/
def Pg.blank (p : Pg) : Pg := { p with pay := List.replicate 32 0 }
theorem blank_lay {p : Pg} {l : List UInt8} (h : p.pay = pad32 l) : lay p.blank.cells 7 ((l.map u8V).take (min l.length 32 * 1)) = p.cells := by
  have e : p.blank.cells = [.int .i64 p.kind, u32V p.lba, u32V p.seq, u32V p.epoch, u32V p.group, u32V p.index, u32V p.total] ++ List.replicate 32 (u8V 0) := by
    unfold Pg.blank Pg.cells
    rw [List.map_replicate]
  rw [e, pay_lay]
  cases p
  subst h
  rfl
theorem lay_full {z cs : List Value} (h : z.length = cs.length) : lay z 0 cs = cs := by
  rw [lay_eq _ _ _ (by omega), List.take_zero, List.nil_append, Nat.zero_add, List.drop_eq_nil_of_le (by omega), List.append_nil]
theorem blank_length (p : Pg) : p.blank.cells.length = 39 := Pg.cells_length (by simp [Pg.blank])
theorem blank_store {z : List Value} {p : Pg} (h : z.length = 39) : lay z 0 p.blank.cells = p.blank.cells := lay_full (by rw [h, blank_length])
def CutQ (A : Assn) (kind epoch group : Int) (l : List UInt8) : Value → List Assn → Prop := fun v Ps =>
  if kind ≠ 2 ∧ kind ≠ 3 then v = .tuple #[.slice none 0 0, .int .i64 1] ∧ Ps = [A]
  else if 65536 < l.length then v = .tuple #[.slice none 0 0, .int .i64 2] ∧ Ps = [A]
  else ∃ pv, v = .tuple #[pv, .int .i64 0] ∧ pv.oneCell' = true ∧ Ps = [vec 54 39 pv (pagesN l.length) (pgs (cutL kind epoch group l (pagesN l.length))), A]
/-- A payload that is filled byte by byte. -/
def fillP (c : List UInt8) (k : Nat) : List UInt8 := c.take k ++ List.replicate (32 - k) 0
theorem fillP_end {c : List UInt8} {k : Nat} (h : k = 32 ∨ k = c.length) (h32 : k ≤ 32) (hc : k ≤ c.length) : fillP c k = pad32 c := by
  unfold fillP pad32
  rcases h with rfl | rfl
  · rw [show 32 - c.length = 0 from by omega]
  · rw [List.take_of_length_le (Nat.le_refl _), List.take_of_length_le h32]
theorem fillP_set {c : List UInt8} {k : Nat} (hk : k < c.length) (h32 : k < 32) (pre : List Value) (hp : pre.length = 7) : (pre ++ (fillP c k).map u8V).set (0 + 7 + k) (u8V c[k]) = pre ++ (fillP c (k + 1)).map u8V := by
  have hl : (c.take k).length = k := by simp; omega
  unfold fillP
  rw [List.set_append_right _ _ (by omega), hp, show 0 + 7 + k - 7 = k from by omega, List.map_append, List.set_append_right _ _ (by simp; omega), List.length_map, hl, Nat.sub_self, show 32 - k = (32 - (k + 1)) + 1 from by omega, List.replicate_succ, List.map_cons, List.set_cons_zero, List.take_succ_eq_append_getElem hk, List.map_append, List.map_append, List.append_assoc]
  rfl
def pgF (kind epoch group : Int) (l : List UInt8) (i k : Nat) : Pg := { pageOf kind epoch group l i with pay := fillP (l.drop (i * 32)) k }
theorem pgF_length {kind epoch group : Int} {l : List UInt8} {i k : Nat} (hk : k ≤ 32) (hc : k ≤ (l.drop (i * 32)).length) : (pgF kind epoch group l i k).cells.length = 39 := Pg.cells_length (by simp only [pgF, fillP, List.length_append, List.length_take, List.length_replicate]; omega)
theorem pgF_set {kind epoch group : Int} {l : List UInt8} {i k : Nat} (hx : i * 32 + k < l.length) (h32 : k < 32) : (pgF kind epoch group l i k).cells.set (0 + 7 + k) (u8V l[i * 32 + k]) = (pgF kind epoch group l i (k + 1)).cells := by
  have hk : k < (l.drop (i * 32)).length := by rw [List.length_drop]; omega
  have h := fillP_set hk h32 [.int .i64 kind, u32V l.length, u32V 0, u32V epoch, u32V group, u32V i, u32V (pagesN l.length)] rfl
  rw [List.getElem_drop] at h
  exact h
theorem pgF_end {kind epoch group : Int} {l : List UInt8} {i k : Nat} (h : k = 32 ∨ k = (l.drop (i * 32)).length) (h32 : k ≤ 32) (hc : k ≤ (l.drop (i * 32)).length) : pgF kind epoch group l i k = pageOf kind epoch group l i := by
  unfold pgF
  rw [fillP_end h h32 hc]
  rfl
theorem q_bytes_view {P : Program} {e : Env} {o : Oper} {Rs : List Assn} {src dst el : TypeId} {x : Operand} {v : Value} {i : Nat} {l : List UInt8} (hop : o.op = .convert src dst x) (hs : P.underlying src = some (.slice el)) (he : P.underlying el = some (.int .u8)) (hd : P.underlying dst = some .string)
    (hx : ev e x = v) (hn : nth Rs i = some (view 1 v l.length (l.map u8V))) : QRun P e Rs o (strV l) := by
  intro W0 w hsat
  obtain ⟨_, q, cap, rfl, _, _, h4⟩ := hsat.view hn
  cases q with
  | none =>
    have hl : l = [] := by
      by_cases h : 0 < l.length
      · obtain ⟨b, off, hq, _⟩ := h4 h
        cases hq
      · exact List.length_eq_zero_iff.1 (by omega)
    subst hl
    exact p_bytes_str_nil hop hs he hd hx w
  | some a =>
    unfold execOp; rw [hop]; simp only [hx]
    have := run_convert_bytes_back (P := P) w src dst el a cap l hs he hd (fun j hj => by
      obtain ⟨b, off, hq, ha⟩ := h4 (by omega)
      cases hq
      rw [addr_add, ha j (u8V l[j]) (by rw [List.getElem?_map, List.getElem?_eq_getElem hj]; rfl)])
    simp only [Sem.run_bind, this, Result.andThen_ok, Sem.run_pure]
/-- The first that is not nought. -/
def firstNZ : List Int → Int
  | [] => 0
  | x :: r => if x ≠ 0 then x else firstNZ r
theorem firstNZ_at : ∀ {l : List Int} {k : Nat} (hk : k < l.length), (∀ j (hj : j < k), l[j]'(by omega) = 0) → l[k] ≠ 0 → firstNZ l = l[k]
  | x :: r, 0, _, _, h => by
    simp only [List.getElem_cons_zero] at h
    rw [firstNZ, if_pos h]; rfl
  | x :: r, k + 1, hk, hz, h => by
    have h0 : x = 0 := hz 0 (by omega)
    rw [firstNZ, if_neg (by omega)]
    exact firstNZ_at (l := r) (by simpa using hk) (fun j hj => hz (j + 1) (by omega)) h
theorem firstNZ_zero : ∀ {l : List Int}, (∀ j (hj : j < l.length), l[j] = 0) → firstNZ l = 0
  | [], _ => rfl
  | x :: r, hz => by
    have h0 : x = 0 := hz 0 (by simp)
    rw [firstNZ, if_neg (by omega)]
    exact firstNZ_zero (l := r) (fun j hj => hz (j + 1) (by simpa using hj))
theorem zext {xs : List Int} {k : Nat} (hk : k < xs.length) (hz : ∀ j (_ : j < k) (hj2 : j < xs.length), xs[j] = 0) (h : xs[k] = 0) : ∀ j (_ : j < k + 1) (hj2 : j < xs.length), xs[j] = 0 := by
  intro j hj hj2
  rcases Nat.lt_or_ge j k with g | g
  · exact hz j g hj2
  · obtain rfl : j = k := by omega
    exact h
/-- A key of the map. -/
structure Ky where
  kind : Int
  epoch : Int
  group : Int
deriving DecidableEq
def Ky.cells (k : Ky) : List Value := [.int .i64 k.kind, u32V k.epoch, u32V k.group]
def cmpI (a b : Int) : Int := if a < b then -1 else if b < a then 1 else 0
def cmpK (a b : Ky) : Int := firstNZ [cmpI a.epoch b.epoch, cmpI a.kind b.kind, cmpI a.group b.group]
theorem cmpI_neg (a b : Int) : cmpI a b < 0 ↔ a < b := by unfold cmpI; split; omega; split <;> omega
theorem cmpI_zero (a b : Int) : cmpI a b = 0 ↔ a = b := by unfold cmpI; split; omega; split <;> omega
/-- The order of the keys. -/
def ltK (a b : Ky) : Prop := a.epoch < b.epoch ∨ (a.epoch = b.epoch ∧ (a.kind < b.kind ∨ (a.kind = b.kind ∧ a.group < b.group)))
instance (a b : Ky) : Decidable (ltK a b) := by unfold ltK; infer_instance
theorem cmpK_neg (a b : Ky) : cmpK a b < 0 ↔ ltK a b := by
  unfold cmpK ltK
  have h1 := cmpI_neg a.epoch b.epoch
  have h2 := cmpI_zero a.epoch b.epoch
  have h3 := cmpI_neg a.kind b.kind
  have h4 := cmpI_zero a.kind b.kind
  have h5 := cmpI_neg a.group b.group
  have h6 := cmpI_zero a.group b.group
  simp only [firstNZ]
  split
  · omega
  · split
    · omega
    · split <;> omega
theorem ltK_irrefl (a : Ky) : ¬ ltK a a := by unfold ltK; omega
theorem ltK_trans {a b c : Ky} (h1 : ltK a b) (h2 : ltK b c) : ltK a c := by unfold ltK at *; omega
theorem ltK_total {a b : Ky} (h1 : ¬ ltK a b) (h2 : ¬ ltK b a) : a = b := by
  unfold ltK at *
  cases a; cases b
  simp only at h1 h2
  simp only [Ky.mk.injEq]
  omega
instance : Inhabited Ky := ⟨⟨0, 0, 0⟩⟩
def iV (n : Int) : Value := .int .i64 n
theorem wrap_law (n : Int) (s : Nat) (hs : 0 < s) : (n.tmod s < 0 → n.tmod s + s = ((n % (s : Int)).toNat : Int)) ∧ (¬ n.tmod s < 0 → n.tmod s = ((n % (s : Int)).toNat : Int)) ∧ -(s : Int) < n.tmod s ∧ n.tmod s < s := by
  have h1 := Int.emod_nonneg n (show (s : Int) ≠ 0 by omega)
  have h2 := Int.emod_lt_of_pos n (show (0 : Int) < s by omega)
  rcases Int.le_total 0 n with h | h
  · rw [Int.tmod_eq_emod_of_nonneg h]
    refine ⟨fun g => by omega, fun _ => by omega, by omega, by omega⟩
  · have h3 := Int.emod_nonneg (-n) (show (s : Int) ≠ 0 by omega)
    have h4 := Int.emod_lt_of_pos (-n) (show (0 : Int) < s by omega)
    have e : n.tmod s = -((-n) % (s : Int)) := by
      rw [← Int.tmod_eq_emod_of_nonneg (show 0 ≤ -n by omega), Int.neg_tmod, Int.neg_neg]
    have h5 := Int.emod_add_mul_ediv (-n) (s : Int)
    rw [e]
    generalize (-n) / (s : Int) = q at h5
    generalize (-n) % (s : Int) = r at *
    by_cases hr : r = 0
    · have hn : n % (s : Int) = 0 := by
        have : n = (s : Int) * (-q) := by rw [Int.mul_neg]; omega
        rw [this, Int.mul_emod_right]
      refine ⟨fun g => by omega, fun _ => by omega, by omega, by omega⟩
    · have hn : n % (s : Int) = s - r := by
        have : n = (s - r) + (s : Int) * (-(q + 1)) := by rw [Int.mul_neg, Int.mul_add, Int.mul_one]; omega
        rw [this, Int.add_mul_emod_self_left, Int.emod_eq_of_lt (by omega) (by omega)]
      refine ⟨fun g => by omega, fun _ => by omega, by omega, by omega⟩
end Go.Mo
