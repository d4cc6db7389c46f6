/-
  The evaluator's appends and copies. It proves nothing of the program by itself.
-/
import Derived.Test.YtbbgajjonodlfaaGreatGEv9
set_option linter.unusedVariables false
set_option linter.unusedSimpArgs false
namespace Go.Evl
open Go Go.Sl
section
variable {P : Program} {e : Env} {o : Oper} {m : Map} {L E : En} {W0 w : World} {H : Hp} {Fr : Assn} {K : HK}

/-! ### Pieces of rows -/
noncomputable def subK (c : Body) (off n : Nat) (K : Body → Bool) : Bool := Body.rec (motive := fun _ => Body → Nat → Nat → (Body → Bool) → Bool)
  (fun len num _ off n K => andK (Nat.ble (Nat.add off n) len) (natK (Nat.mod (Nat.div num (Nat.pow 256 off)) (Nat.pow 256 n)) fun r => K (.bs n r)))
  (fun _ _ _ _ _ _ _ => false)
  (fun _ _ c off n K => andK (Nat.ble (Nat.add off n) c.size) (cellsK c off n .nil fun l => putsK l (.tr n .nil) 0 K)) c c off n K
theorem undefs_rel {m : Map} {n : Nat} : bodyRel m (.tr n .nil) (List.replicate n undef) := ⟨by simp, fun _ _ => rfl, fun i v u h => by cases h⟩
theorem subK_sound {c : Body} {off n : Nat} {K : Body → Bool} (h : subK c off n K = true) : off + n ≤ c.size ∧ ∃ p, K p = true ∧ p.size = n ∧ ∀ vs, bodyRel m c vs → bodyRel m p ((vs.drop off).take n) := by
  cases c with
  | bs len num =>
    obtain ⟨h1, h2⟩ := andK_sound h
    rw [natK_eq] at h2
    have h1 : off + n ≤ len := Nat.le_of_ble_eq_true h1
    refine ⟨h1, _, h2, rfl, ?_⟩
    rintro vs rfl
    show _ = (bytesOf n (num / 256 ^ off % 256 ^ n)).map u8V
    rw [bytesOf_mod, ← List.map_drop, ← List.map_take, bytesOf_drop, bytesOf_take _ _ _ (by omega)]
  | bu len k n => cases h
  | tr size t =>
    obtain ⟨h1, h2⟩ := andK_sound (c := Nat.ble (Nat.add off n) (Body.tr size t).size) (x := cellsK (.tr size t) off n .nil fun l => putsK l (.tr n .nil) 0 K) h
    have h1 : off + n ≤ size := Nat.le_of_ble_eq_true h1
    obtain ⟨_, l, h3, h4⟩ := cellsK_sound (m := m) h2
    obtain ⟨p, h5, h6, h7⟩ := putsK_sound (m := m) h3
    refine ⟨h1, p, h5, h6, fun vs hb => ?_⟩
    have h8 := h4 vs [] hb rfl
    rw [List.append_nil] at h8
    have h9 := (h7 _ _ undefs_rel h8).2.2
    have hl : ((vs.drop off).take n).length = n := by have := hb.1; simp; omega
    rwa [lay_all (by rw [hl]; simp)] at h9
/-- A piece as bytes. -/
noncomputable def numB (p : Body) (K : Nat → Bool) : Bool := Body.rec (motive := fun _ => Body → (Nat → Bool) → Bool) (fun l n _ K => K (Nat.mod n (Nat.pow 256 l))) (fun _ _ _ _ _ => false) (fun _ _ p K => cellsK p 0 p.size .nil fun l => numL l K) p p K
theorem numB_sound {p : Body} {K : Nat → Bool} (h : numB p K = true) : ∃ n, K n = true ∧ ∀ ys, bodyRel m p ys → ys = (bytesOf p.size n).map u8V := by
  cases p with
  | bs l n => exact ⟨_, h, fun ys hy => by rw [show ys = _ from hy]; show _ = (bytesOf l (n % 256 ^ l)).map u8V; rw [bytesOf_mod]⟩
  | bu l k n => cases h
  | tr s t =>
    obtain ⟨h0, l, h1, h2⟩ := cellsK_sound (m := m) (c := .tr s t) h
    by_cases g : ∃ ys, bodyRel m (.tr s t) ys
    · obtain ⟨ys, hy⟩ := g
      have h3 := h2 ys [] hy rfl
      rw [List.append_nil, List.drop_zero, List.take_of_length_le (by rw [hy.len]; exact Nat.le_refl _)] at h3
      obtain ⟨n, h4, h5⟩ := numL_sound h1 h3
      refine ⟨n, h4, fun ys' hy' => ?_⟩
      have h3' := h2 ys' [] hy' rfl
      rw [List.append_nil, List.drop_zero, List.take_of_length_le (by rw [hy'.len]; exact Nat.le_refl _)] at h3'
      have : ys' = ys := numL_same h1 h3' h3
      rw [this, ← hy.len]
      exact h5
    · obtain ⟨n, h4⟩ := numL_some h1
      exact ⟨n, h4, fun ys hy => absurd ⟨ys, hy⟩ g⟩
noncomputable def layB (dst : Body) (off : Nat) (src : Body) (K : Body → Bool) : Bool := andK (Nat.ble (Nat.add off src.size) dst.size) (
  Body.rec (motive := fun _ => Body → Nat → Body → (Body → Bool) → Bool)
    (fun len n dst off src K => Body.rec (motive := fun _ => Nat → Nat → Body → Nat → Body → (Body → Bool) → Bool) (fun l' n' len n _ off _ K => natK (splice n off l' n') fun r => K (.bs len r))
      (fun _ _ _ _ _ _ _ _ _ => false)
      (fun _ _ _ _ dst off src K => cellsK src 0 src.size .nil fun l => putsK l dst off K) src len n dst off src K)
    (fun len k n _ off src K => andK (Nat.beq off k) (numB src fun n' => natK (Nat.add k src.size) fun k' => natK (Nat.add (Nat.mod n (Nat.pow 256 k)) (Nat.mul (Nat.pow 256 k) n')) fun r => Bool.rec (motive := fun _ => Bool) (K (.bu len k' r)) (K (.bs len r)) (Nat.beq k' len)))
    (fun _ _ dst off src K => cellsK src 0 src.size .nil fun l => putsK l dst off K) dst dst off src K)
theorem one_bytes {l n : Nat} : ∀ u ∈ (bytesOf l n).map u8V, u.oneCell' = true := one_u8
theorem layB_sound {dst src : Body} {off : Nat} {K : Body → Bool} (h : layB dst off src K = true) : off + src.size ≤ dst.size ∧ ∃ c, K c = true ∧ c.size = dst.size ∧ ∀ vs ys, bodyRel m dst vs → bodyRel m src ys → (∀ u ∈ ys, u.oneCell' = true) ∧ bodyRel m c (lay vs off ys) := by
  obtain ⟨h1, h2⟩ := andK_sound h
  have h1 : off + src.size ≤ dst.size := Nat.le_of_ble_eq_true h1
  refine ⟨h1, ?_⟩
  have gen : cellsK src 0 src.size .nil (fun l => putsK l dst off K) = true → ∃ c, K c = true ∧ c.size = dst.size ∧ ∀ vs ys, bodyRel m dst vs → bodyRel m src ys → (∀ u ∈ ys, u.oneCell' = true) ∧ bodyRel m c (lay vs off ys) := by
    intro h2
    obtain ⟨_, l, h3, h4⟩ := cellsK_sound (m := m) h2
    obtain ⟨c, h5, h6, h7⟩ := putsK_sound (m := m) h3
    refine ⟨c, h5, h6, fun vs ys hv hy => ?_⟩
    have h8 := h4 ys [] hy rfl
    rw [List.append_nil, List.drop_zero, List.take_of_length_le (by rw [hy.len]; exact Nat.le_refl _)] at h8
    exact (h7 vs ys hv h8).2
  cases dst with
  | bs len n =>
    cases src with
    | bs l' n' =>
      have h2 : natK (splice n off l' n') (fun r => K (.bs len r)) = true := h2
      rw [natK_eq] at h2
      refine ⟨_, h2, rfl, ?_⟩
      rintro vs ys rfl rfl
      refine ⟨one_bytes, ?_⟩
      show _ = (bytesOf len (splice n off l' n')).map u8V
      have h1 : off + l' ≤ len := h1
      rw [splice_eq len n off l' n' h1, lay_eq _ _ _ (by simp [bytesOf_length]; exact h1)]
      simp [bytesOf_length, List.map_take, List.map_drop]
    | bu l k n => cases h2
    | tr s t => exact gen h2
  | bu len k n =>
    obtain ⟨h3, h4⟩ := andK_sound (c := Nat.beq off k) h2
    obtain ⟨n', h5, h6⟩ := numB_sound (m := m) h4
    rw [natK_eq, natK_eq] at h5
    have := Nat.eq_of_beq_eq_true h3
    subst this
    have h1 : off + src.size ≤ len := h1
    have key : ∀ vs ys, bodyRel m (.bu len off n) vs → bodyRel m src ys → (∀ u ∈ ys, u.oneCell' = true) ∧ (lay vs off ys).length = len ∧ (lay vs off ys).take (off + src.size) = (bytesOf (off + src.size) (Nat.add (Nat.mod n (Nat.pow 256 off)) (Nat.mul (Nat.pow 256 off) n'))).map u8V := by
      intro vs ys hv hy
      obtain ⟨hl, hk, ht⟩ := hv
      have hys := h6 ys hy
      have hyl := hy.len
      refine ⟨by rw [hys]; exact one_bytes, by rw [lay_length]; exact hl, ?_⟩
      rw [lay_eq _ _ _ (by omega), List.take_append_of_le_length (by simp; omega), List.take_of_length_le (by simp; omega), ht, hys, ← List.map_append, bytesOf_append]
      rfl
    cases hb : Nat.beq (Nat.add off src.size) len with
    | true =>
      rw [hb] at h5
      have hlen : off + src.size = len := Nat.eq_of_beq_eq_true hb
      refine ⟨_, h5, rfl, fun vs ys hv hy => ?_⟩
      obtain ⟨g1, g2, g3⟩ := key vs ys hv hy
      refine ⟨g1, ?_⟩
      rw [hlen, List.take_of_length_le (by omega)] at g3
      exact g3
    | false =>
      rw [hb] at h5
      refine ⟨_, h5, rfl, fun vs ys hv hy => ?_⟩
      obtain ⟨g1, g2, g3⟩ := key vs ys hv hy
      exact ⟨g1, g2, h1, g3⟩
  | tr s t => exact gen h2
noncomputable def growB (c : Body) (n : Nat) : Body := Body.rec (motive := fun _ => Nat → Body) (fun len num n => .bs n (Nat.mod num (Nat.pow 256 len))) (fun _ k num n => .bu n k num) (fun _ t n => .tr n t) c n
theorem growB_sound {c : Body} {n : Nat} {vs : List Value} (h : c.size ≤ n) (hb : bodyRel m c vs) : (growB c n).size = n ∧ ∃ us, us.length = n - c.size ∧ bodyRel m (growB c n) (vs ++ us) := by
  cases c with
  | bs len num =>
    refine ⟨rfl, (bytesOf (n - len) 0).map u8V, by simp [bytesOf_length, Body.size], ?_⟩
    rw [show vs = _ from hb]
    show _ = (bytesOf n (num % 256 ^ len)).map u8V
    rw [← List.map_append, bytesOf_append]
    have h : len ≤ n := h
    rw [show len + (n - len) = n from by omega, Nat.mul_zero, Nat.add_zero]
  | bu len k num =>
    have h : len ≤ n := h
    obtain ⟨h1, h2, h3⟩ := hb
    exact ⟨rfl, List.replicate (n - len) undef, by simp [Body.size], by simp; omega, by omega, by rw [List.take_append_of_le_length (by omega)]; exact h3⟩
  | tr size t =>
    have h : size ≤ n := h
    refine ⟨rfl, List.replicate (n - size) undef, by simp [Body.size], ?_, fun i hi => hb.2.1 i (by omega), fun i v u hv hu => ?_⟩
    · have := hb.1; simp; omega
    · rcases Nat.lt_or_ge i size with g | g
      · rw [List.getElem?_append_left (by rw [hb.1]; exact g)] at hu
        exact hb.2.2 i v u hv hu
      · rw [hb.2.1 i g] at hv; cases hv
noncomputable def catK (c1 c2 : Body) (K : Body → Bool) : Bool := Bool.rec (motive := fun _ => Bool) (Bool.rec (motive := fun _ => Bool) (natK (Nat.add c1.size c2.size) fun n => layB (growB c1 n) c1.size c2 K) (bodyK c1 K) (Nat.beq c2.size 0)) (bodyK c2 K) (Nat.beq c1.size 0)
theorem nil_of_size {c : Body} {vs : List Value} (h : Nat.beq c.size 0 = true) (hb : bodyRel m c vs) : vs = [] := List.eq_nil_of_length_eq_zero (by rw [hb.len]; exact Nat.eq_of_beq_eq_true h)
theorem catK_sound {c1 c2 : Body} {K : Body → Bool} (h : catK c1 c2 K = true) : ∃ c, K c = true ∧ ∀ xs ys, bodyRel m c1 xs → bodyRel m c2 ys → bodyRel m c (xs ++ ys) := by
  unfold catK at h
  cases h1 : Nat.beq c1.size 0 with
  | true =>
    rw [h1] at h
    have h : bodyK c2 K = true := h
    rw [bodyK_eq] at h
    exact ⟨c2, h, fun xs ys hx hy => by rw [nil_of_size h1 hx]; exact hy⟩
  | false =>
    rw [h1] at h
    cases h2 : Nat.beq c2.size 0 with
    | true =>
      rw [h2] at h
      have h : bodyK c1 K = true := h
      rw [bodyK_eq] at h
      exact ⟨c1, h, fun xs ys hx hy => by rw [nil_of_size h2 hy, List.append_nil]; exact hx⟩
    | false =>
      rw [h2] at h
      have h : natK (Nat.add c1.size c2.size) (fun n => layB (growB c1 n) c1.size c2 K) = true := h
      rw [natK_eq] at h
      obtain ⟨_, c, h3, h4, h5⟩ := layB_sound (m := m) h
      refine ⟨c, h3, fun xs ys hx hy => ?_⟩
      obtain ⟨h6, us, h7, h8⟩ := growB_sound (m := m) (n := Nat.add c1.size c2.size) (Nat.le_add_right _ _) hx
      have h9 := (h5 _ ys h8 hy).2
      have e : lay (xs ++ us) c1.size ys = xs ++ ys := by
        have hxl := hx.len
        have hyl := hy.len
        have h7 : us.length = c1.size + c2.size - c1.size := h7
        rw [lay_eq _ _ _ (by simp; omega), ← hxl, List.take_left, List.drop_eq_nil_of_le (by simp; omega), List.append_nil]
      rwa [e] at h9

/-! ### What is appended, what is copied -/
def SrcW (P : Program) (w : World) (v : Value) (m sz : Nat) (ys : List Value) : Prop :=
  ys.length = m * sz ∧ ∀ w', w'.heap = w.heap → (Builtin.lenOf v).run P w' = .ok m w' ∧ ∀ k, k ≤ m → (Builtin.firstCells sz k v).run P w' = .ok (ys.take (k * sz)).toArray w'
theorem srcW_none {a : Option Addr} {c sz : Nat} : SrcW P w (.slice a 0 c) 0 sz [] := by
  refine ⟨by simp, fun w' _ => ⟨rfl, fun k hk => ?_⟩⟩
  obtain rfl : k = 0 := by omega
  cases a <;> simp [Builtin.firstCells, loadCells, loadCellsFrom]
theorem srcW_row {b off n cap sz T : Nat} {cs : List Value} {f : Nat × Nat} (h : w.heap[b]? = some (.cells cs.toArray T f)) (hl : off + n * sz ≤ cs.length) : SrcW P w (slc b off n cap) n sz ((cs.drop off).take (n * sz)) := by
  refine ⟨by simp; omega, fun w' hw => ⟨rfl, fun k hk => ?_⟩⟩
  have hc : ∀ (j : Nat) (v : Value), (cs.drop off)[j]? = some v → w'.cell? ⟨b, off + j, none⟩ = some v := by
    intro j v hj
    rw [List.getElem?_drop] at hj
    unfold World.cell?
    rw [hw, h]
    simp [hj]
  have hle : k * sz ≤ n * sz := Nat.mul_le_mul_right _ hk
  have := Go.Sl.run_loadCellsFrom (P := P) (w := w') hc (k * sz) 0 #[] (by simp; omega)
  simp only [Builtin.firstCells, loadCells, this]
  congr 1
  rw [List.take_take, Nat.min_eq_left hle]
  simp
theorem srcW_str {l : List UInt8} : SrcW P w (strV l) l.length 1 (l.map u8V) := by
  refine ⟨by simp, fun w' _ => ⟨rfl, fun k _ => ?_⟩⟩
  simp only [Builtin.firstCells, Sem.run_pure]
  congr 1
  apply Array.ext'
  simp [List.map_take]
noncomputable def srcK (x : AV) (sz : Nat) (H : Hp) (K : Nat → Body → Bool) : Bool := AV.rec (motive := fun _ => (Nat) → (Hp) → (Nat → Body → Bool) → Bool) (fun _ _ _ => false) (fun _ _ _ _ => false) (fun _ _ _ _ _ => false) (fun l n sz H K => andK (Nat.beq sz 1) (K l (.bs l n))) (fun _ _ _ => false) (fun _ _ _ _ _ => false) (fun  sz H K => K 0 (.bs 0 0)) (fun  sz H K => K 0 (.bs 0 0)) (fun id off n c sz H K => Bool.rec (motive := fun _ => Bool) (blkK H id fun _ _ c => subK c off (Nat.mul n sz) fun p => K n p) (K 0 (.bs 0 0)) (Nat.beq n 0)) (fun id off n k sz H K => Bool.rec (motive := fun _ => Bool) (blkK H id fun _ _ c => subK c off (Nat.mul n sz) fun p => K n p) (K 0 (.bs 0 0)) (Nat.beq n 0)) (fun _ _ _ => false) (fun _ _ _ _ => false) (fun _ _ _ _ _ _ => false) (fun _ _ _ => false) (fun _ _ _ => false) (fun _ _ _ _ _ _ => false) (fun _ _ _ => false) (fun _ _ _ _ _ _ _ => false) (fun _ _ _ _ _ => false) (fun _ _ _ _ _ => false) x sz H K
theorem srcK_sound {x : AV} {v : Value} {sz : Nat} {K : Nat → Body → Bool} (hi : Inv1 m H) (hs : Mem W0 m H Fr w) (hr : rel m x v) (h : srcK x sz H K = true) : ∃ n p ys, K n p = true ∧ SrcW P w v n sz ys ∧ bodyRel m p ys := by
  have key : ∀ {id off n : Nat} {b' c' cap' : Nat}, m id = some (b', c') → v = slc b' off n cap' → Bool.rec (motive := fun _ => Bool) (blkK H id fun _ _ c => subK c off (Nat.mul n sz) fun p => K n p) (K 0 (.bs 0 0)) (Nat.beq n 0) = true → ∃ n p ys, K n p = true ∧ SrcW P w v n sz ys ∧ bodyRel m p ys := by
    intro id off n b' c' cap' r1 r2 h7
    subst r2
    cases hn : Nat.beq n 0 with
    | true =>
      rw [hn] at h7
      have := Nat.eq_of_beq_eq_true hn
      subst this
      exact ⟨0, _, [], h7, srcW_none, rfl⟩
    | false =>
      rw [hn] at h7
      obtain ⟨T, z, c, h8, h9⟩ := blkK_sound (H := H) h7
      obtain ⟨R, b, cap, vs, rest, h10, h11, h12, h13, _, _⟩ := hs.opn (hi.1.pos hi.2 r1) h8
      have hb : b' = b := by rw [h10] at r1; cases r1; rfl
      subst hb
      obtain ⟨h14, p, h15, h16, h17⟩ := subK_sound (m := m) h9
      have h14 : off + n * sz ≤ c.size := h14
      obtain ⟨lo, hi', hh, _⟩ := h13.getRow (i := 0) rfl
      have hle : off + n * sz ≤ vs.length := by rw [h11.len]; exact h14
      have := srcW_row (P := P) (n := n) (cap := cap') (off := off) (sz := sz) hh (by simp; omega)
      rw [List.drop_append_of_le_length (by omega), List.take_append_of_le_length (by simp; omega)] at this
      exact ⟨n, p, _, h15, this, h17 vs h11⟩
  unfold srcK at h
  cases x with
  | s l n =>
    obtain ⟨h1, h2⟩ := andK_sound h
    have := Nat.eq_of_beq_eq_true h1
    subst this
    have hr : v = strV (bytesOf l n) := hr
    subst hr
    have := srcW_str (P := P) (w := w) (l := bytesOf l n)
    rw [bytesOf_length] at this
    exact ⟨l, _, _, h2, this, rfl⟩
  | sn => have hr : v = .slice none 0 0 := hr; subst hr; exact ⟨0, _, [], h, srcW_none, rfl⟩
  | se => obtain ⟨a, c, rfl⟩ := hr; exact ⟨0, _, [], h, srcW_none, rfl⟩
  | sl id off n cap => obtain ⟨b, c, r1, r2, _⟩ := hr; exact key r1 r2 h
  | sv id off n k => obtain ⟨b, c, r1, _, r2⟩ := hr; exact key r1 r2 h
  | _ => cases h
set_option maxHeartbeats 8000000 in
theorem run_append_roomG {w w' : World} {t t' ty el : TypeId} {d : TypeDesc} {inf : TypeInfo} {vx : Value} {b off n c k : Nat} {new : Array Value}
    (ht : P.underlying t = some (.slice el)) (hd : P.underlying t' = some d) (hdi : ∀ k, d ≠ .int k) (hi : P.info? el = some inf) (hlen : (Builtin.lenOf vx).run P w = .ok k w)
    (hg : n + k ≤ c) (hnew : (Builtin.firstCells inf.size k vx).run P w = .ok new w) (hst : (storeCells ⟨b, off + n * inf.size, none⟩ new.toList).run P w = .ok () w') :
    (Builtin.append_ #[t, t'] ty #[slc b off n c, vx]).run P w = .ok (slc b off (n + k) c) w' := by
  have ha : Addr.add ⟨b, off, none⟩ (n * inf.size) = ⟨b, off + n * inf.size, none⟩ := by rw [addr_add]
  cases d with
  | int k => exact absurd rfl (hdi k)
  | _ => simp [Builtin.append_, run_underlying' ht, run_underlying' hd, sizeOf, typeInfo, hi, hlen, hg, hnew, ha, hst]
variable {s x : Operand} {t t' el : TypeId} {sz bytes : Nat} {z : List Value}
theorem append_op {v v' : Value} {w' : World} (hop : o.op = .call { callee := .builtin .append, args := #[s, x], argTypes := #[t, t'] }) (hs : ev e s = v) (h : (Builtin.append_ #[t, t'] o.type #[v, ev e x]).run P w = .ok v' w') : (execOp (ev e) o).run P w = .ok (.value v') w' := by
  refine run_builtin hop ?_
  rw [map2, hs]
  simp only [builtin, Sem.run_bind, h, Result.andThen_ok, Sem.run_pure]
theorem appendRoom {b off n c k T : Nat} {cs ys : List Value} {R : List Assn} (hop : o.op = .call { callee := .builtin .append, args := #[s, x], argTypes := #[t, t'] }) (ht : P.underlying t = some (.slice el)) (ht' : ∃ d, P.underlying t' = some d ∧ ∀ k, d ≠ .int k)
    (hi : TyInfo P el sz bytes z) (hs : ev e s = slc b off n c) (hX : SrcW P w (ev e x) k sz ys) (hg : n + k ≤ c) (sat : Sat W0 (sep (row b T cs :: R)) w) (hl : k = 0 ∨ off + n * sz + ys.length ≤ cs.length) (h1 : ∀ u ∈ ys, u.oneCell' = true) :
    ∃ w', (execOp (ev e) o).run P w = .ok (.value (slc b off (n + k) c)) w' ∧ Sat W0 (sep (row b T (lay cs (off + n * sz) ys) :: R)) w' := by
  obtain ⟨d, hd, hdi⟩ := ht'
  obtain ⟨inf, zv, hi1, hi2, hi3, hi4, hi5⟩ := hi
  obtain ⟨hyl, hX⟩ := hX
  have hxx := hX w rfl
  have hf := hxx.2 k (Nat.le_refl _)
  rw [List.take_of_length_le (by omega)] at hf
  rcases hl with g | g
  · subst g
    have hys : ys = [] := List.eq_nil_of_length_eq_zero (by rw [hyl]; simp)
    subst hys
    refine ⟨w, append_op hop hs (run_append_roomG (P := P) ht hd hdi hi1 hxx.1 hg (by rw [hi2]; exact hf) rfl), ?_⟩
    exact sat
  · obtain ⟨w', st1, st2⟩ := sat.storeCells (P := P) (i := 0) (off := off + n * sz) (k := 0) (vs := ys) rfl (by omega) h1
    exact ⟨w', append_op hop hs (run_append_roomG (P := P) ht hd hdi hi1 hxx.1 hg (by rw [hi2]; exact hf) (by rw [hi2]; exact st1)), st2⟩
theorem appendNew {base : Option Addr} {n c k : Nat} {xs ys : List Value} {Hs : List Assn} (hop : o.op = .call { callee := .builtin .append, args := #[s, x], argTypes := #[t, t'] }) (ht : P.underlying t = some (.slice el)) (ht' : ∃ d, P.underlying t' = some d ∧ ∀ k, d ≠ .int k)
    (hi : TyInfo P el sz bytes z) (hzl : z.length = sz) (hs : ev e s = .slice base n c) (hS : SrcW P w (.slice base n c) n sz xs) (hX : SrcW P w (ev e x) k sz ys) (hg : ¬ n + k ≤ c) (hb : n + k ≤ 9223372036854775807 ∧ (n + k) * bytes ≤ 140737488355328) (sat : Sat W0 (sep Hs) w) :
    ∃ b cap rest w', (execOp (ev e) o).run P w = .ok (.value (slc b 0 (n + k) cap)) w' ∧ n + k ≤ cap ∧ cap ≤ 9223372036854775807 ∧ ((xs ++ ys) ++ rest).length = cap * sz ∧ Sat W0 (sep (row b el ((xs ++ ys) ++ rest) :: Hs)) w' := by
  obtain ⟨d, hd, hdi⟩ := ht'
  obtain ⟨inf, zv, hi1, hi2, hi3, hi4, hi5⟩ := hi
  have hzv : zv.cells = z.toArray := by rw [← hi5]
  obtain ⟨hxl, hS⟩ := hS
  obtain ⟨hyl, hX⟩ := hX
  have hgc := grownCap_bound w (n + k) c el hb.1
  have f1 := (hS w.drew rfl).2 n (Nat.le_refl _)
  have f2 := (hX w.drew rfl).2 k (Nat.le_refl _)
  rw [List.take_of_length_le (by omega)] at f1 f2
  have hr := run_append_new (P := P) (w := w) (ty := o.type) ht hd hdi hi1 hi4 (hX w rfl).1 hg hb.1 (by rw [hi3]; exact growslice_fits (by omega) hb.2) (by rw [hi2]; exact f1) (by rw [hi2]; exact f2)
  have hrow : (xs.toArray ++ ys.toArray ++ Builtin.zeroCells zv.cells (grownCap w (n + k) c el - (n + k))) = ((xs ++ ys) ++ zeros (grownCap w (n + k) c el - (n + k)) z).toArray := by
    rw [hzv]
    apply Array.ext'
    simp [zeroCells_eq]
  rw [hrow] at hr
  refine ⟨_, _, zeros (grownCap w (n + k) c el - (n + k)) z, _, append_op hop hs hr, hgc.1, hgc.2, ?_, sat.drew.newRow el _⟩
  simp only [List.length_append, hxl, hyl, zeros_length, hzl]
  rw [← Nat.add_mul, ← Nat.add_mul]
  congr 1
  omega
theorem appendNone (hop : o.op = .call { callee := .builtin .append, args := #[s, x], argTypes := #[t, t'] }) (ht : P.underlying t = some (.slice el)) (ht' : ∃ d, P.underlying t' = some d ∧ ∀ k, d ≠ .int k)
    (hi : TyInfo P el sz bytes z) (hs : ev e s = .slice none 0 0) {ys : List Value} (hX : SrcW P w (ev e x) 0 sz ys) : (execOp (ev e) o).run P w = .ok (.value (.slice none 0 0)) w := by
  obtain ⟨d, hd, hdi⟩ := ht'
  obtain ⟨inf, zv, hi1, hi2, hi3, hi4, hi5⟩ := hi
  obtain ⟨hyl, hX⟩ := hX
  have hf := (hX w rfl).2 0 (Nat.le_refl _)
  rw [Nat.zero_mul, List.take_zero] at hf
  exact append_op hop hs (run_append_none (P := P) (ty := o.type) ht hd hdi hi1 (hX w rfl).1 (by rw [hi2]; exact hf))

/-! ### append -/
def notIntB (P : Program) (t : TypeId) : Bool := match P.underlying t with
  | some (.int _) => false
  | some _ => true
  | none => false
theorem notIntB_sound (h : notIntB P t = true) : ∃ d, P.underlying t = some d ∧ ∀ k, d ≠ .int k := by
  unfold notIntB at h
  split at h
  · cases h
  · rename_i d hd hd2; exact ⟨d, hd2, fun k g => by subst g; exact hd k rfl⟩
  · cases h
noncomputable def args22 (c : Call) (K : Operand → Operand → TypeId → TypeId → Bool) : Bool := match c.args.toList, c.argTypes.toList with
  | [x, y], [t, t'] => K x y t t'
  | _, _ => false
theorem args22_sound {c : Call} {K : Operand → Operand → TypeId → TypeId → Bool} (h : args22 c K = true) : ∃ x y t t', c.args = #[x, y] ∧ c.argTypes = #[t, t'] ∧ K x y t t' = true := by
  unfold args22 at h
  split at h
  · rename_i x y t t' h1 h2; exact ⟨x, y, t, t', Array.ext' h1, Array.ext' h2, h⟩
  · cases h
noncomputable def bigOk (n bytes : Nat) (x : Bool) : Bool := andK (Nat.ble n 9223372036854775807) (andK (Nat.ble (Nat.mul n bytes) 140737488355328) x)
theorem bigOk_sound {n bytes : Nat} {x : Bool} (h : bigOk n bytes x = true) : (n ≤ 9223372036854775807 ∧ n * bytes ≤ 140737488355328) ∧ x = true := by
  obtain ⟨h1, h2⟩ := andK_sound h
  obtain ⟨h3, h4⟩ := andK_sound h2
  exact ⟨⟨Nat.le_of_ble_eq_true h1, Nat.le_of_ble_eq_true h3⟩, h4⟩
noncomputable def oneL (l : AV) : Bool := AV.rec (motive := fun _ => Bool) false (fun _ => false) (fun _ _ => false) (fun _ _ => false) false (fun _ _ => false) false false (fun _ _ _ _ => false) (fun _ _ _ _ => false) false (fun _ => false) (fun _ _ _ => false) false false (fun _ _ _ => false) true (fun v _ _ ih => Bool.rec (motive := fun _ => Bool) false ih (okC v)) (fun _ _ => false) (fun _ _ => false) l
theorem oneL_sound {m : Map} : ∀ {l : AV} {vs : List Value}, oneL l = true → relL m l vs → ∀ u ∈ vs, u.oneCell' = true := by
  intro l
  induction l with
  | nil => intro vs _ hr; cases hr; simp
  | cons v t _ ih =>
    intro vs h hr
    obtain ⟨u, us, h1, h2, rfl⟩ := hr
    obtain ⟨h3, h4⟩ := rec_false h
    intro x hx
    rcases List.mem_cons.1 hx with rfl | hx
    · exact okC_sound h3 h1
    · exact ih h4 h2 x hx
  | _ => intro vs h; cases h
noncomputable def oneB (p : Body) (x : Bool) : Bool := Body.rec (motive := fun _ => Body → Bool → Bool) (fun _ _ _ x => x) (fun _ _ _ _ _ => false) (fun _ _ p x => cellsK p 0 p.size .nil fun l => andK (oneL l) x) p p x
theorem oneB_sound {p : Body} {x : Bool} {ys : List Value} (h : oneB p x = true) (hy : bodyRel m p ys) : x = true ∧ ∀ u ∈ ys, u.oneCell' = true := by
  cases p with
  | bs l n => exact ⟨h, by rw [show ys = _ from hy]; exact one_bytes⟩
  | bu l k n => cases h
  | tr s t =>
    obtain ⟨_, l, h1, h2⟩ := cellsK_sound (m := m) (c := .tr s t) h
    obtain ⟨h3, h4⟩ := andK_sound h1
    have h5 := h2 ys [] hy rfl
    rw [List.append_nil, List.drop_zero, List.take_of_length_le (by rw [hy.len]; exact Nat.le_refl _)] at h5
    exact ⟨h4, oneL_sound h3 h5⟩
noncomputable def appSn (el sz bytes k : Nat) (p : Body) (H : Hp) (K : HK) : Bool := Bool.rec (motive := fun _ => Bool) (bigOk k bytes (newK H el sz p fun id H => K (.sv id 0 k 0) H)) (K .sn H) (Nat.beq k 0)
noncomputable def appSl (id off n cap el sz bytes k : Nat) (p : Body) (H : Hp) (K : HK) : Bool := blkK H id fun T z c => natK (Nat.add n k) fun nk => Bool.rec (motive := fun _ => Bool)
  (subK c off (Nat.mul n sz) fun p0 => catK p0 p fun c2 => bigOk nk bytes (newK H el sz c2 fun id H => K (.sv id 0 nk 0) H))
  (Bool.rec (motive := fun _ => Bool) (layB c (Nat.add off (Nat.mul n sz)) p fun c => turnK H id T z c fun H => K (.sl id off nk cap) H) (K (.sl id off n cap) H) (Nat.beq k 0)) (Nat.ble nk cap)
noncomputable def appSv (id off n kk el sz bytes k : Nat) (p : Body) (H : Hp) (K : HK) : Bool := Bool.rec (motive := fun _ => Bool)
  (blkK H id fun T z c => andK (Nat.beq z sz) (andK (Nat.beq T el) (andK (Nat.beq off (Nat.mul kk sz)) (natK (Nat.add n k) fun nk => Bool.rec (motive := fun _ => Bool)
    (andK (Nat.beq kk 0) (andK (Nat.beq (Nat.mul n sz) c.size) (bigOk nk bytes (oneB p (catK c p fun c2 => setK none H.t id fun t => newK ⟨H.next, t⟩ el sz c2 fun id H => K (.sv id 0 nk 0) H)))))
    (layB c (Nat.add off (Nat.mul n sz)) p fun c => turnK H id T z c fun H => K (.sv id off nk kk) H) (Nat.ble (Nat.add off (Nat.mul nk sz)) c.size)))))
  (K (.sv id off n kk) H) (Nat.beq k 0)
noncomputable def appV (s : AV) (el sz bytes k : Nat) (p : Body) (H : Hp) (K : HK) : Bool := AV.rec (motive := fun _ => (Nat) → (Nat) → (Nat) → (Nat) → (Body) → (Hp) → (HK) → Bool) (fun _ _ _ _ _ _ _ => false) (fun _ _ _ _ _ _ _ _ => false) (fun _ _ _ _ _ _ _ _ _ => false) (fun _ _ _ _ _ _ _ _ _ => false) (fun _ _ _ _ _ _ _ => false) (fun _ _ _ _ _ _ _ _ _ => false) (fun  el sz bytes k p H K => appSn el sz bytes k p H K) (fun _ _ _ _ _ _ _ => false) (fun id off n cap el sz bytes k p H K => appSl id off n cap el sz bytes k p H K) (fun id off n kk el sz bytes k p H K => appSv id off n kk el sz bytes k p H K) (fun _ _ _ _ _ _ _ => false) (fun _ _ _ _ _ _ _ _ => false) (fun _ _ _ _ _ _ _ _ _ _ => false) (fun _ _ _ _ _ _ _ => false) (fun _ _ _ _ _ _ _ => false) (fun _ _ _ _ _ _ _ _ _ _ => false) (fun _ _ _ _ _ _ _ => false) (fun _ _ _ _ _ _ _ _ _ _ _ => false) (fun _ _ _ _ _ _ _ _ _ => false) (fun _ _ _ _ _ _ _ _ _ => false) s el sz bytes k p H K
noncomputable def eAppend (c : Call) (P : Program) (L E : En) (H : Hp) (K : HK) : Bool := args22 c fun s x t t' => optK (slElB P t) fun el => optK (tyB P el) fun q => andK (Nat.beq q.2.2.length q.1) (andK (Nat.blt 0 q.1) (andK (notIntB P t')
  (natK q.1 fun sz => srcK (opV x L E) sz H fun k p => appV (opV s L E) el sz q.2.1 k p H K)))
theorem restOk_vec {z cap k : Nat} {vs rest : List Value} (h1 : (vs ++ rest).length = cap * z) (h2 : cap ≤ 9223372036854775807) (h3 : vs.length = k * z) (hz : 0 < z) : restOk z cap vs rest :=
  ⟨fun h => by omega, fun _ => ⟨h1, h2, k, h3⟩⟩
theorem eAppend_sound {c : Call} (hop : o.op = .call c) (hc : c.callee = .builtin .append) (hi : Inv1 m H) (he : EnvRel m L E e) (hs : Mem W0 m H Fr w) (h : eAppend c P L E H K = true) : ES P e o W0 Fr m w K := by
  obtain ⟨s, x, t, t', a1, a2, h1⟩ := args22_sound h
  obtain ⟨callee, args, ats⟩ := c
  have hc : callee = .builtin .append := hc
  have a1 : args = #[s, x] := a1
  have a2 : ats = #[t, t'] := a2
  subst hc a1 a2
  obtain ⟨el, h2, h3⟩ := optK_sound h1
  obtain ⟨⟨sz, bytes, z⟩, h4, h5⟩ := optK_sound h3
  obtain ⟨h6, h7⟩ := andK_sound h5
  obtain ⟨h8, h9⟩ := andK_sound h7
  obtain ⟨h10, h11⟩ := andK_sound h9
  rw [natK_eq] at h11
  have h11 : srcK (opV x L E) sz H (fun k p => appV (opV s L E) el sz bytes k p H K) = true := h11
  have hzl : z.length = sz := Nat.eq_of_beq_eq_true h6
  have hsz : 0 < sz := blt_lt h8
  have hel := slElB_sound h2
  have hty := tyB_sound h4
  have hni := notIntB_sound h10
  obtain ⟨k, p, ys, h12, hX, hy⟩ := srcK_sound (P := P) hi hs (opV_rel he x) h11
  have hyl : ys.length = k * sz := hX.1
  unfold appV at h12
  generalize hv : opV s L E = v at h12
  have hr := opR he hv
  cases v with
  | sn =>
    have h12 : appSn el sz bytes k p H K = true := h12
    unfold appSn at h12
    cases hk : Nat.beq k 0 with
    | true =>
      rw [hk] at h12
      have := Nat.eq_of_beq_eq_true hk
      subst this
      exact ⟨_, w, .inl (appendNone (w := w) hop hel hni hty hr hX), m, H, .sn, Map.le_refl m, hi, rfl, hs, h12⟩
    | false =>
      rw [hk] at h12
      obtain ⟨g1, g2⟩ := bigOk_sound h12
      rw [newK_eq] at g2
      have hk0 : k ≠ 0 := fun g => by subst g; cases hk
      obtain ⟨b, cap, rest, w', r1, r2, r3, r4, r5⟩ := appendNew (P := P) (W0 := W0) (xs := []) (n := 0) hop hel hni hty hzl hr srcW_none hX (by omega) (by simpa using g1) hs
      rw [List.nil_append] at r4 r5
      rw [Nat.zero_add] at r1 r2
      obtain ⟨k1, k2, k3, k4⟩ := Mem.new (cap := cap) hi r5 hy (restOk_vec r4 r3 hyl hsz)
      exact ⟨_, w', .inl r1, _, _, .sv H.next 0 k 0, k1, k2, ⟨b, cap, k3, by omega, rfl⟩, k4, g2⟩
  | se => cases h12
  | sl id off n cap =>
    have h12 : appSl id off n cap el sz bytes k p H K = true := h12
    obtain ⟨b, c, q1, q2, q3⟩ := hr
    obtain ⟨T, z', cb, u1, u2⟩ := blkK_sound h12
    rw [natK_eq] at u2
    obtain ⟨R, b2, cap2, vs, rest, g1, g2, g3, g4, g5, _⟩ := hs.opn (hi.1.pos hi.2 q1) u1
    have hb : b = b2 ∧ c = cap2 := by rw [g1] at q1; cases q1; exact ⟨rfl, rfl⟩
    obtain ⟨rfl, rfl⟩ := hb
    obtain ⟨lo, hh, heap, _⟩ := g4.getRow (i := 0) rfl
    rw [rec_ble] at u2
    by_cases hg : Nat.add n k ≤ cap
    · rw [if_pos hg] at u2
      have hg : n + k ≤ cap := hg
      cases hk : Nat.beq k 0 with
      | true =>
        rw [hk] at u2
        have := Nat.eq_of_beq_eq_true hk
        subst this
        have hy0 : ys = [] := List.eq_nil_of_length_eq_zero (by rw [hyl]; simp)
        subst hy0
        obtain ⟨w', r1, r2⟩ := appendRoom (P := P) hop hel hni hty q2 hX hg g4 (.inl rfl) (by simp)
        rw [Nat.add_zero] at r1
        have r3 := (r2.mono (Ent.cons (Ent.asn g1 g2 g3) (Ent.refl _))).mono (g5 m (.cells T z' cb))
        -- the same block laid back: nothing changed; the world as well
        have hw : w' = w := by
          have e1 := appendRoom (P := P) hop hel hni hty q2 hX hg g4 (.inl rfl) (by simp)
          obtain ⟨d, hd, hdi⟩ := hni
          obtain ⟨inf, zv, i1, i2, i3, i4, i5⟩ := hty
          have hf := (hX.2 w rfl).2 0 (Nat.le_refl _)
          rw [Nat.zero_mul, List.take_zero] at hf
          have e2 := append_op (P := P) hop q2 (run_append_roomG (P := P) (w' := w) (off := off) (ty := o.type) hel hd hdi i1 (hX.2 w rfl).1 hg (by rw [i2]; exact hf) rfl)
          rw [Nat.add_zero, r1] at e2
          cases e2
          rfl
        subst hw
        exact ⟨_, w', .inl r1, m, H, .sl id off n cap, Map.le_refl m, hi, ⟨b, c, g1, rfl, q3⟩, hs, u2⟩
      | false =>
        rw [hk] at u2
        obtain ⟨g6, c', g7, g8, g9⟩ := layB_sound (m := m) (dst := cb) (src := p) (off := Nat.add off (Nat.mul n sz)) u2
        rw [turnK_eq] at g7
        have g10 := g9 vs ys g2 hy
        have g6 : off + n * sz + p.size ≤ cb.size := g6
        rw [← hy.len, ← g2.len] at g6
        obtain ⟨w', r1, r2⟩ := appendRoom (P := P) hop hel hni hty q2 hX hg g4 (.inr (by simp; omega)) g10.1
        rw [lay_append (by omega)] at r2
        refine ⟨_, w', .inl r1, m, _, .sl id off (Nat.add n k) cap, Map.le_refl m, ⟨hi.1.tree _, hi.2⟩, ⟨b, c, g1, rfl, hg⟩, ?_, g7⟩
        exact (r2.mono (Ent.cons (Ent.asn g1 g10.2 (g3.same (by rw [lay_length]))) (Ent.refl _))).mono (g5 m _)
    · rw [if_neg hg] at u2
      have hg : ¬ n + k ≤ cap := hg
      obtain ⟨g6, p0, g7, g8, g9⟩ := subK_sound (m := m) u2
      obtain ⟨c2, g10, g11⟩ := catK_sound (m := m) g7
      obtain ⟨g12, g13⟩ := bigOk_sound g10
      rw [newK_eq] at g13
      have g6 : off + n * sz ≤ cb.size := g6
      rw [← g2.len] at g6
      have hS := srcW_row (P := P) (n := n) (cap := cap) (off := off) (sz := sz) heap (by simp; omega)
      rw [List.drop_append_of_le_length (by omega), List.take_append_of_le_length (by simp; omega)] at hS
      obtain ⟨b', cap', rest', w', r1, r2, r3, r4, r5⟩ := appendNew (P := P) (W0 := W0) hop hel hni hty hzl q2 hS hX hg g12 hs
      have hcat := g11 _ ys (g9 vs g2) hy
      obtain ⟨k1, k2, k3, k4⟩ := Mem.new (cap := cap') hi r5 hcat (restOk_vec (k := n + k) r4 r3 (by rw [List.length_append, hS.1, hyl, Nat.add_mul]) hsz)
      exact ⟨_, w', .inl r1, _, _, .sv H.next 0 (Nat.add n k) 0, k1, k2, ⟨b', cap', k3, r2, rfl⟩, k4, g13⟩
  | sv id off n kk =>
    have h12 : appSv id off n kk el sz bytes k p H K = true := h12
    unfold appSv at h12
    obtain ⟨b, c, q1, q3, q2⟩ := hr
    cases hk : Nat.beq k 0 with
    | true =>
      rw [hk] at h12
      have := Nat.eq_of_beq_eq_true hk
      subst this
      obtain ⟨d, hd, hdi⟩ := hni
      obtain ⟨inf, zv, i1, i2, i3, i4, i5⟩ := hty
      have hf := (hX.2 w rfl).2 0 (Nat.le_refl _)
      rw [Nat.zero_mul, List.take_zero] at hf
      have e2 := append_op (P := P) hop q2 (run_append_roomG (P := P) (w' := w) (off := off) (ty := o.type) hel hd hdi i1 (hX.2 w rfl).1 (by omega) (by rw [i2]; exact hf) rfl)
      rw [Nat.add_zero] at e2
      exact ⟨_, w, .inl e2, m, H, .sv id off n kk, Map.le_refl m, hi, ⟨b, c, q1, q3, rfl⟩, hs, h12⟩
    | false =>
      rw [hk] at h12
      obtain ⟨T, z', cb, u1, u2⟩ := blkK_sound (H := H) h12
      obtain ⟨u3, u4⟩ := andK_sound u2
      obtain ⟨u5, u6⟩ := andK_sound u4
      obtain ⟨u7, u8⟩ := andK_sound u6
      rw [natK_eq] at u8
      have hz : z' = sz := Nat.eq_of_beq_eq_true u3
      have hT : T = el := Nat.eq_of_beq_eq_true u5
      have hoff : off = kk * sz := Nat.eq_of_beq_eq_true u7
      subst hz hT
      obtain ⟨R, b2, cap2, vs, rest, g1, g2, g3, g4, g5, g5n⟩ := hs.opn (hi.1.pos hi.2 q1) u1
      have hb : b = b2 ∧ c = cap2 := by rw [g1] at q1; cases q1; exact ⟨rfl, rfl⟩
      obtain ⟨rfl, rfl⟩ := hb
      obtain ⟨lo, hh, heap, _⟩ := g4.getRow (i := 0) rfl
      obtain ⟨g31, g32, N, g33⟩ := g3.2 (by omega)
      have hNc : N ≤ c := by
        rw [List.length_append, g33] at g31
        exact Nat.le_of_mul_le_mul_right (by omega) hsz
      rw [rec_ble] at u8
      by_cases hg : Nat.add off (Nat.mul (Nat.add n k) z') ≤ cb.size
      · rw [if_pos hg] at u8
        have hg : off + (n + k) * z' ≤ cb.size := hg
        rw [← g2.len, g33, hoff, ← Nat.add_mul] at hg
        have hle := Nat.le_of_mul_le_mul_right hg hsz
        obtain ⟨g6, c', g7, g8, g9⟩ := layB_sound (m := m) (dst := cb) (src := p) (off := Nat.add off (Nat.mul n z')) u8
        rw [turnK_eq] at g7
        have g10 := g9 vs ys g2 hy
        have g6 : off + n * z' + p.size ≤ cb.size := g6
        rw [← hy.len, ← g2.len] at g6
        obtain ⟨w', r1, r2⟩ := appendRoom (P := P) hop hel hni hty q2 hX (by omega) g4 (.inr (by simp; omega)) g10.1
        rw [lay_append (by omega)] at r2
        refine ⟨_, w', .inl r1, m, _, .sv id off (Nat.add n k) kk, Map.le_refl m, ⟨hi.1.tree _, hi.2⟩, ⟨b, c, g1, by show n + k + kk ≤ c; omega, rfl⟩, ?_, g7⟩
        exact (r2.mono (Ent.cons (Ent.asn g1 g10.2 (g3.same (by rw [lay_length]))) (Ent.refl _))).mono (g5 m _)
      · rw [if_neg hg] at u8
        obtain ⟨v1, v2⟩ := andK_sound u8
        obtain ⟨v3, v4⟩ := andK_sound v2
        obtain ⟨v5, v6⟩ := bigOk_sound v4
        obtain ⟨v6, hoc⟩ := oneB_sound v6 hy
        obtain ⟨c2, v7, v8⟩ := catK_sound (m := m) v6
        rw [setK_eq, newK_eq] at v7
        have hkk : kk = 0 := Nat.eq_of_beq_eq_true v1
        subst hkk
        have hoff : off = 0 := by rw [hoff]; simp
        subst hoff
        have hn : n * z' = cb.size := Nat.eq_of_beq_eq_true v3
        have hvl : vs.length = n * z' := by rw [g2.len]; exact hn.symm
        have hcat := v8 vs ys g2 hy
        rw [Nat.sub_zero] at q2
        have v5 : n + k ≤ 9223372036854775807 ∧ (n + k) * bytes ≤ 140737488355328 := v5
        by_cases hroom : n + k ≤ c
        · have hbnd : (n + k) * z' ≤ c * z' := Nat.mul_le_mul_right _ hroom
          rw [Nat.add_mul] at hbnd
          rw [List.length_append] at g31
          obtain ⟨w', r1, r2⟩ := appendRoom (P := P) hop hel hni hty q2 hX hroom g4 (.inr (by simp; omega)) hoc
          have e1 : lay (vs ++ rest) (0 + n * z') ys = (vs ++ ys) ++ rest.drop ys.length := by
            rw [lay_eq _ _ _ (by simp; omega)]
            have e0 : 0 + n * z' = vs.length := by omega
            rw [e0, List.take_left, ← List.drop_drop, List.drop_left]
          rw [e1] at r2
          have r3 : Sat W0 (sep (row b T ((vs ++ ys) ++ rest.drop ys.length) :: (hpA m (Tr.set none H.t id) ++ [Fr]))) w' := r2.mono (Ent.cons (Ent.refl _) (g5n m))
          obtain ⟨k1, k2, k3, k4⟩ := Mem.new (H := ⟨H.next, Tr.set none H.t id⟩) (cap := c) ⟨hi.1.tree _, hi.2⟩ r3 hcat (restOk_vec (k := n + k) (by simp only [List.length_append, List.length_drop]; omega) g32 (by rw [List.length_append, hvl, hyl, Nat.add_mul]) hsz)
          exact ⟨_, w', .inl r1, _, _, .sv H.next 0 (Nat.add n k) 0, k1, k2, ⟨b, c, k3, hroom, rfl⟩, k4, v7⟩
        · have hS := srcW_row (P := P) (n := n) (cap := c) (off := 0) (sz := z') heap (by simp; omega)
          rw [List.drop_zero, List.take_append_of_le_length (by omega), List.take_of_length_le (by omega)] at hS
          have s1 : Sat W0 (sep (hpA m (Tr.set none H.t id) ++ [Fr])) w := (g4.mono (Ent.drop _ _)).mono (g5n m)
          obtain ⟨b', cap', rest', w', r1, r2, r3, r4, r5⟩ := appendNew (P := P) (W0 := W0) hop hel hni hty hzl q2 hS hX hroom v5 s1
          obtain ⟨k1, k2, k3, k4⟩ := Mem.new (H := ⟨H.next, Tr.set none H.t id⟩) (cap := cap') ⟨hi.1.tree _, hi.2⟩ r5 hcat (restOk_vec (k := n + k) r4 r3 (by rw [List.length_append, hvl, hyl, Nat.add_mul]) hsz)
          exact ⟨_, w', .inl r1, _, _, .sv H.next 0 (Nat.add n k) 0, k1, k2, ⟨b', cap', k3, r2, rfl⟩, k4, v7⟩
  | _ => cases h12
/-! ### copy, clear -/
noncomputable def copyV (s : AV) (sz k : Nat) (p : Body) (H : Hp) (K : HK) : Bool := AV.rec (motive := fun _ => (Nat) → (Nat) → (Body) → (Hp) → (HK) → Bool) (fun _ _ _ _ _ => false) (fun _ _ _ _ _ _ => false) (fun _ _ _ _ _ _ _ => false) (fun _ _ _ _ _ _ _ => false) (fun _ _ _ _ _ => false) (fun _ _ _ _ _ _ _ => false) (fun  sz k p H K => K (.i .i64 (Int.ofNat 0)) H) (fun  sz k p H K => K (.i .i64 (Int.ofNat 0)) H) (fun id off n c sz k p H K => natK (Nat.min k n) fun j => Bool.rec (motive := fun _ => Bool) (blkK H id fun T z c => subK p 0 (Nat.mul j sz) fun p => layB c off p fun c => turnK H id T z c fun H => K (.i .i64 (Int.ofNat j)) H) (K (.i .i64 (Int.ofNat 0)) H) (Nat.beq j 0)) (fun id off n c sz k p H K => natK (Nat.min k n) fun j => Bool.rec (motive := fun _ => Bool) (blkK H id fun T z c => subK p 0 (Nat.mul j sz) fun p => layB c off p fun c => turnK H id T z c fun H => K (.i .i64 (Int.ofNat j)) H) (K (.i .i64 (Int.ofNat 0)) H) (Nat.beq j 0)) (fun _ _ _ _ _ => false) (fun _ _ _ _ _ _ => false) (fun _ _ _ _ _ _ _ _ => false) (fun _ _ _ _ _ => false) (fun _ _ _ _ _ => false) (fun _ _ _ _ _ _ _ _ => false) (fun _ _ _ _ _ => false) (fun _ _ _ _ _ _ _ _ _ => false) (fun _ _ _ _ _ _ _ => false) (fun _ _ _ _ _ _ _ => false) s sz k p H K
noncomputable def eCopy (c : Call) (P : Program) (L E : En) (H : Hp) (K : HK) : Bool := args22 c fun s x t _ => optK (slElB P t) fun el => optK (szB P el) fun sz => natK sz fun sz => srcK (opV x L E) sz H fun k p => copyV (opV s L E) sz k p H K
theorem eCopy_sound {c : Call} (hop : o.op = .call c) (hc : c.callee = .builtin .copy) (hi : Inv1 m H) (he : EnvRel m L E e) (hs : Mem W0 m H Fr w) (h : eCopy c P L E H K = true) : ES P e o W0 Fr m w K := by
  obtain ⟨s, x, t, t', a1, a2, h1⟩ := args22_sound h
  obtain ⟨callee, args, ats⟩ := c
  have hc : callee = .builtin .copy := hc
  have a1 : args = #[s, x] := a1
  have a2 : ats = #[t, t'] := a2
  subst hc a1 a2
  obtain ⟨el, h2, h3⟩ := optK_sound h1
  obtain ⟨sz, h4, h5⟩ := optK_sound h3
  rw [natK_eq] at h5
  have hel := slElB_sound h2
  have hsz := szB_s h4
  obtain ⟨k, p, ys, h12, hX, hy⟩ := srcK_sound (P := P) hi hs (opV_rel he x) h5
  have hyl : ys.length = k * sz := hX.1
  have gen : ∀ {base : Option Addr} {n cap : Nat} {w' : World}, ev e s = .slice base n cap → (match base with | some a => (storeCells a (ys.take (min k n * sz))).run P w = .ok () w' | none => w' = w) → (execOp (ev e) o).run P w = .ok (.value (.int .i64 ((min k n : Nat) : Int))) w' := by
    intro base n cap w' hs' hst
    refine run_builtin hop ?_
    rw [map2, hs']
    have hm : k.min n = min k n := rfl
    have hf := (hX.2 w rfl).2 (min k n) (Nat.min_le_left _ _)
    cases base with
    | none => subst hst; simp [builtin, Builtin.copy_, run_underlying' hel, run_sizeOf' hsz, (hX.2 w' rfl).1, hm, hf, goInt]
    | some a => simp [builtin, Builtin.copy_, run_underlying' hel, run_sizeOf' hsz, (hX.2 w rfl).1, hm, hf, hst, goInt]
  have key : ∀ {id off n : Nat} {b' c' cap' : Nat}, m id = some (b', c') → ev e s = slc b' off n cap' →
      natK (Nat.min k n) (fun j => Bool.rec (motive := fun _ => Bool) (blkK H id fun T z c => subK p 0 (Nat.mul j sz) fun p => layB c off p fun c => turnK H id T z c fun H => K (.i .i64 (Int.ofNat j)) H) (K (.i .i64 (Int.ofNat 0)) H) (Nat.beq j 0)) = true → ES P e o W0 Fr m w K := by
    intro id off n b' c' cap' r1 r2 h7
    rw [natK_eq] at h7
    cases hn : Nat.beq (Nat.min k n) 0 with
    | true =>
      rw [hn] at h7
      have hj := Nat.eq_of_beq_eq_true hn
      have hj : min k n = 0 := hj
      have := gen (w' := w) r2 (by rw [hj, Nat.zero_mul, List.take_zero]; rfl)
      rw [hj] at this
      exact ⟨_, w, .inl this, m, H, .i .i64 (Int.ofNat 0), Map.le_refl m, hi, rfl, hs, h7⟩
    | false =>
      rw [hn] at h7
      obtain ⟨T, z, c, h8, h9⟩ := blkK_sound (H := H) h7
      obtain ⟨R, b, cap, vs, rest, g1, g2, g3, g4, g5, _⟩ := hs.opn (hi.1.pos hi.2 r1) h8
      have hb : b' = b := by rw [g1] at r1; cases r1; rfl
      subst hb
      obtain ⟨h14, p', h15, h16, h17⟩ := subK_sound (m := m) h9
      have h18 := h17 ys hy
      rw [List.drop_zero] at h18
      obtain ⟨g6, c2, g7, g8, g9⟩ := layB_sound (m := m) h15
      rw [turnK_eq] at g7
      have g10 := g9 vs _ g2 h18
      rw [← g2.len, ← h18.len] at g6
      have g10 : (∀ u ∈ ys.take (min k n * sz), u.oneCell' = true) ∧ bodyRel m c2 (lay vs off (ys.take (min k n * sz))) := g10
      have g6 : off + (ys.take (min k n * sz)).length ≤ vs.length := g6
      obtain ⟨w', st1, st2⟩ := g4.storeCells (P := P) (i := 0) (off := off) (k := 0) (vs := ys.take (min k n * sz)) rfl (by rw [List.length_append]; omega) g10.1
      have hrun := gen (w' := w') r2 st1
      have st2 : Sat W0 (sep (row b' T (lay (vs ++ rest) off (ys.take (min k n * sz))) :: (R.map (asn m) ++ [Fr]))) w' := st2
      rw [lay_append g6] at st2
      refine ⟨_, w', .inl hrun, m, _, .i .i64 (Int.ofNat (Nat.min k n)), Map.le_refl m, ⟨hi.1.tree _, hi.2⟩, rfl, ?_, g7⟩
      exact (st2.mono (Ent.cons (Ent.asn g1 g10.2 (g3.same (by rw [lay_length]))) (Ent.refl _))).mono (g5 m _)
  unfold copyV at h12
  generalize hv : opV s L E = v at h12
  have hr := opR he hv
  cases v with
  | sn =>
    have := gen (w' := w) hr rfl
    rw [Nat.min_zero] at this
    exact ⟨_, w, .inl this, m, H, .i .i64 (Int.ofNat 0), Map.le_refl m, hi, rfl, hs, h12⟩
  | se =>
    obtain ⟨a, c, r1⟩ := hr
    have := gen (w' := w) r1 (by rw [Nat.min_zero, Nat.zero_mul, List.take_zero]; cases a <;> rfl)
    rw [Nat.min_zero] at this
    exact ⟨_, w, .inl this, m, H, .i .i64 (Int.ofNat 0), Map.le_refl m, hi, rfl, hs, h12⟩
  | sl id off n cap => obtain ⟨b, c, r1, r2, _⟩ := hr; exact key r1 r2 h12
  | sv id off n k => obtain ⟨b, c, r1, _, r2⟩ := hr; exact key r1 r2 h12
  | _ => cases h12
end
end Go.Evl
