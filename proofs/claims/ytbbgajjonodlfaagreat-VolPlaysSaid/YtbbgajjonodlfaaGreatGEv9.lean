/-
  The evaluator's operations that read. It proves nothing of the program by itself.
-/
import Derived.Test.YtbbgajjonodlfaaGreatGEv8
set_option linter.unusedVariables false
set_option linter.unusedSimpArgs false
namespace Go.Evl
open Go Go.Sl
section
variable {P : Program} {e : Env} {o : Oper} {m : Map} {L E : En} {x y : Operand} {W0 w : World} {H : Hp} {Fr : Assn}
/-- The memory is as H tells. -/
abbrev Mem (W0 : World) (m : Map) (H : Hp) (Fr : Assn) (w : World) : Prop := Sat W0 (sep (hpA m H.t ++ [Fr])) w
noncomputable def blkK (H : Hp) (id : Nat) (K : Nat → Nat → Body → Bool) : Bool := optK (H.t.get id) fun b => Blk.rec (motive := fun _ => (Nat → Nat → Body → Bool) → Bool) (fun T z c K => K T z c) (fun _ _ _ _ => false) (fun _ _ _ => false) (fun _ _ _ _ => false) (fun _ _ _ _ _ _ _ _ _ => false) (fun _ _ _ _ _ => false) b K
theorem blkK_sound {id : Nat} {K : Nat → Nat → Body → Bool} (h : blkK H id K = true) : ∃ T z c, H.t.get id = some (.cells T z c) ∧ K T z c = true := by
  obtain ⟨b, h1, h2⟩ := optK_sound h
  cases b with
  | cells T z c => exact ⟨T, z, c, h1, h2⟩
  | _ => cases h2
/-- One block, as it lies in the memory; the rest beside it. -/
theorem Mem.opn {id T z : Nat} {c : Body} (hs : Mem W0 m H Fr w) (hid : 1 ≤ id) (hg : H.t.get id = some (.cells T z c)) :
    ∃ (R : List (Nat × Blk)) (b cap : Nat) (vs rest : List Value), m id = some (b, cap) ∧ bodyRel m c vs ∧ restOk z cap vs rest ∧ Sat W0 (sep (row b T (vs ++ rest) :: (R.map (asn m) ++ [Fr]))) w ∧
      (∀ m blk, Ent (sep (asn m (id, blk) :: (R.map (asn m) ++ [Fr]))) (sep (hpA m (Tr.set (some blk) H.t id) ++ [Fr]))) ∧
      (∀ m, Ent (sep (R.map (asn m) ++ [Fr])) (sep (hpA m (Tr.set none H.t id) ++ [Fr]))) := by
  obtain ⟨R, h1, h2, h3⟩ := hp_lens (Fr := Fr) H.t id hid
  have s1 := hs.mono (h1 m _ hg)
  obtain ⟨b, cap, vs, rest, h4, h5, h6, h7⟩ := Sat.asn s1
  exact ⟨R, b, cap, vs, rest, h4, h5, h6, h7, h2, h3⟩
theorem Inv.pos {id b c : Nat} (hi : Inv m H) (h0 : m 0 = none) (h : m id = some (b, c)) : 1 ≤ id := by
  rcases Nat.eq_zero_or_pos id with g | g
  · subst g; rw [h0] at h; cases h
  · exact g
/-- Nothing has number 0. -/
def Inv1 (m : Map) (H : Hp) : Prop := Inv m H ∧ m 0 = none

/-! ### Loads -/
noncomputable def lLoad0 (t : TypeId) (x : Operand) (P : Program) (L E : En) (H : Hp) (K : AV → Bool) : Bool := asP (opV x L E) fun id off => blkK H id fun _ _ c => optK (isAggB P t) fun ag =>
  Bool.rec (motive := fun _ => Bool) (cellK c off fun v => forceK v K) (optK (szB P t) fun sz => andK (Nat.ble (Nat.add off sz) c.size) (cellsK c off sz .nil fun l => K (.agg l))) ag
/-- The operation comes to a value that is told, in this world, and leaves it. -/
def LS (P : Program) (e : Env) (o : Oper) (m : Map) (w : World) (K : AV → Bool) : Prop := ∃ av v, (execOp (ev e) o).run P w = .ok (.value v) w ∧ rel m av v ∧ K av = true
theorem PS.ls {K : AV → Bool} (h : PS P e o m K) : LS P e o m w K := let ⟨av, v, h1, h2, h3⟩ := h; ⟨av, v, h1 w, h2, h3⟩
theorem lLoad0_sound {t : TypeId} {K : AV → Bool} (hop : o.op = .load t x) (hi : Inv1 m H) (he : EnvRel m L E e) (hs : Mem W0 m H Fr w) (h : lLoad0 t x P L E H K = true) : LS P e o m w K := by
  obtain ⟨id, off, h1, h2⟩ := asP_sound h
  obtain ⟨b', c', r1, r2⟩ := (opR he h1 : rel m (.p id off) _)
  obtain ⟨T, z, c, h3, h4⟩ := blkK_sound h2
  obtain ⟨R, b, cap, vs, rest, h5, h6, h7, h8, _, _⟩ := hs.opn (hi.1.pos hi.2 r1) h3
  have hb : b' = b := by rw [h5] at r1; cases r1; rfl
  subst hb
  obtain ⟨ag, h9, h10⟩ := optK_sound h4
  cases ag with
  | false =>
    obtain ⟨h11, v, h12, h13⟩ := cellK_sound (m := m) h10
    rw [forceK_eq] at h12
    have hlt : off < vs.length := by rw [h6.len]; exact h11
    have hv : (vs ++ rest)[off]? = some vs[off] := by rw [List.getElem?_append_left hlt, List.getElem?_eq_getElem hlt]
    exact ⟨v, _, q_load hop (isAggB_f h9) r2 (i := 0) rfl hv W0 w h8, h13 vs _ h6 (List.getElem?_eq_getElem hlt), h12⟩
  | true =>
    obtain ⟨sz, h11, h12⟩ := optK_sound h10
    obtain ⟨h13, h14⟩ := andK_sound h12
    obtain ⟨_, l, h16, h17⟩ := cellsK_sound (m := m) h14
    have hle : off + sz ≤ vs.length := by rw [h6.len]; exact Nat.le_of_ble_eq_true h13
    have hv : ((vs ++ rest).drop off).take sz = (vs.drop off).take sz := by rw [List.drop_append_of_le_length (by omega), List.take_append_of_le_length (by simp; omega)]
    have h18 := h17 vs [] h6 rfl
    rw [List.append_nil] at h18
    exact ⟨.agg l, _, q_loadA hop (isAggB_t h9) (szB_s h11) r2 (i := 0) rfl (by simp; omega) hv W0 w h8, ⟨_, h18, rfl⟩, h16⟩
/-! Tables of the program's own, read only -/
noncomputable def gdB (v : AV) (H : Hp) : Bool := asP v fun id _ => optK (H.t.get id) fun b => Blk.rec (motive := fun _ => Bool) (fun _ _ _ => false) (fun _ _ _ => false) (fun _ _ => false) (fun _ _ _ => false) (fun _ _ _ _ _ _ _ _ => false) (fun _ _ _ _ => true) b
noncomputable def gdAt (H : Hp) (id : Nat) (K : Nat → Body → Bool) : Bool := optK (H.t.get id) fun b => Blk.rec (motive := fun _ => (Nat → Body → Bool) → Bool) (fun _ _ _ _ => false) (fun _ _ _ _ => false) (fun _ _ _ => false) (fun _ _ _ _ => false) (fun _ _ _ _ _ _ _ _ _ => false) (fun g c _ _ K => K g c) b K
theorem gdAt_sound {id : Nat} {K : Nat → Body → Bool} (h : gdAt H id K = true) : ∃ g c T cs, H.t.get id = some (.gd g c T cs) ∧ K g c = true := by
  obtain ⟨b, h1, h2⟩ := optK_sound h
  cases b with
  | gd g c T cs => exact ⟨g, c, T, cs, h1, h2⟩
  | _ => cases h2
theorem Mem.opnG {id g T : Nat} {c : Body} {cs : List Value} (hs : Mem W0 m H Fr w) (hid : 1 ≤ id) (hg : H.t.get id = some (.gd g c T cs)) :
    ∃ (R : List (Nat × Blk)), m id = some (g, 0) ∧ bodyRel m c cs ∧ Sat W0 (sep (blk g (.cells cs.toArray T (0, 0)) :: (R.map (asn m) ++ [Fr]))) w := by
  obtain ⟨R, h1, _, _⟩ := hp_lens (Fr := Fr) H.t id hid
  have s1 := hs.mono (h1 m _ hg)
  obtain ⟨k', x, hx, g1, g2, d, rfl, ⟨e1, e2, e3⟩, hl⟩ := s1
  exact ⟨R, e1, e2, ⟨k', _, hx, g1, g2, d, rfl, e3, hl⟩⟩
theorem blk_row {b T : Nat} {cs : List Value} : Ent (blk b (.cells cs.toArray T (0, 0))) (row b T cs) := Ent.of_imp fun _ h => ⟨0, 0, h, fun i _ g => by omega⟩
noncomputable def lLoadG (t : TypeId) (x : Operand) (P : Program) (L E : En) (H : Hp) (K : AV → Bool) : Bool := asP (opV x L E) fun id off => gdAt H id fun _ c => optK (isAggB P t) fun ag =>
  Bool.rec (motive := fun _ => Bool) (cellK c off fun v => forceK v K) false ag
theorem lLoadG_sound {t : TypeId} {K : AV → Bool} (hop : o.op = .load t x) (hi : Inv1 m H) (he : EnvRel m L E e) (hs : Mem W0 m H Fr w) (h : lLoadG t x P L E H K = true) : LS P e o m w K := by
  obtain ⟨id, off, h1, h2⟩ := asP_sound h
  obtain ⟨b', c', r1, r2⟩ := (opR he h1 : rel m (.p id off) _)
  obtain ⟨g, c, T, cs, h3, h4⟩ := gdAt_sound h2
  obtain ⟨R, h5, h6, h8⟩ := hs.opnG (hi.1.pos hi.2 r1) h3
  have hb : b' = g := by rw [h5] at r1; cases r1; rfl
  subst hb
  obtain ⟨ag, h9, h10⟩ := optK_sound h4
  cases ag with
  | true => cases h10
  | false =>
    obtain ⟨h11, v, h12, h13⟩ := cellK_sound (m := m) h10
    rw [forceK_eq] at h12
    have hlt : off < cs.length := by rw [h6.len]; exact h11
    have hv : cs[off]? = some cs[off] := List.getElem?_eq_getElem hlt
    have hr : rel m v cs[off] := h13 cs _ h6 hv
    exact ⟨v, _, q_load hop (isAggB_f h9) r2 (i := 0) rfl hv W0 w (h8.mono (Ent.cons blk_row (Ent.refl _))), hr, h12⟩
noncomputable def lLoad (t : TypeId) (x : Operand) (P : Program) (L E : En) (H : Hp) (K : AV → Bool) : Bool := Bool.rec (motive := fun _ => Bool) (lLoad0 t x P L E H K) (lLoadG t x P L E H K) (gdB (opV x L E) H)
theorem lLoad_sound {t : TypeId} {K : AV → Bool} (hop : o.op = .load t x) (hi : Inv1 m H) (he : EnvRel m L E e) (hs : Mem W0 m H Fr w) (h : lLoad t x P L E H K = true) : LS P e o m w K := by
  unfold lLoad at h
  cases hb : gdB (opV x L E) H with
  | false => rw [hb] at h; exact lLoad0_sound hop hi he hs h
  | true => rw [hb] at h; exact lLoadG_sound hop hi he hs h
theorem lLoad_ptr {t : TypeId} {K : AV → Bool} (h : lLoad t x P L E H K = true) : ∃ id off, opV x L E = .p id off := by
  unfold lLoad at h
  cases hb : gdB (opV x L E) H with
  | false => rw [hb] at h; obtain ⟨id, off, h1, _⟩ := asP_sound (v := opV x L E) h; exact ⟨id, off, h1⟩
  | true => rw [hb] at h; obtain ⟨id, off, h1, _⟩ := asP_sound (v := opV x L E) h; exact ⟨id, off, h1⟩
/-! A table's place -/
noncomputable def glK (x : Operand) (K : Nat → Bool) : Bool := Operand.rec (motive := fun _ => (Nat → Bool) → Bool) (fun _ _ => false) (fun _ _ => false) (fun g K => K g) (fun _ _ => false) x K
theorem glK_sound {K : Nat → Bool} (h : glK x K = true) : ∃ g, x = .global g ∧ K g = true := by
  cases x with
  | global g => exact ⟨g, rfl, h⟩
  | _ => cases h
noncomputable def lIndexG (t : TypeId) (x i : Operand) (P : Program) (L E : En) (H : Hp) (K : AV → Bool) : Bool := glK x fun g => optK (idxB P t) fun q => asN (opV i L E) fun i =>
  Bool.rec (motive := fun _ => Bool) false (andK (Nat.blt i q.2.1) (gdAt H (Nat.succ g) fun g' _ => andK (Nat.beq g' g) (natK (Nat.mul i q.2.2) fun o => K (.p (Nat.succ g) o)))) q.1
theorem lIndexG_sound {t : TypeId} {i : Operand} {K : AV → Bool} (hop : o.op = .indexAddr t x i) (he : EnvRel m L E e) (hs : Mem W0 m H Fr w) (h : lIndexG t x i P L E H K = true) : LS P e o m w K := by
  obtain ⟨g, rfl, h⟩ := glK_sound h
  obtain ⟨⟨arr, n, sz⟩, h1, h2⟩ := optK_sound h
  obtain ⟨k, j, h3, h4⟩ := asN_sound h2
  have hi := opI he h3
  cases arr with
  | false => cases h4
  | true =>
    obtain ⟨el, h5, h6⟩ := idxB_t h1
    obtain ⟨h10, h11⟩ := andK_sound h4
    obtain ⟨g', c, T, cs, h12, h13⟩ := gdAt_sound h11
    obtain ⟨h14, h15⟩ := andK_sound h13
    have := Nat.eq_of_beq_eq_true h14
    subst this
    rw [natK_eq] at h15
    have := blt_lt h10
    obtain ⟨R, r1, _, _⟩ := hs.opnG (Nat.succ_le_succ (Nat.zero_le _)) h12
    have h16 := p_indexAddr_a (P := P) (b := g') (off := 0) hop h5 h6 (show ev e (.global g') = ptr g' 0 from rfl) hi ⟨by simp, by simp; omega⟩
    exact ⟨.p (g' + 1) (j * sz), _, h16 w, ⟨g', 0, r1, by simp⟩, h15⟩
/-! Bytes read as a text -/
/-- The number of a list of bytes. -/
noncomputable def numL (l : AV) : (Nat → Bool) → Bool := AV.rec (motive := fun _ => (Nat → Bool) → Bool) (fun _ => false) (fun _ _ => false) (fun _ _ _ => false) (fun _ _ _ => false) (fun _ => false) (fun _ _ _ => false) (fun _ => false) (fun _ => false) (fun _ _ _ _ _ => false) (fun _ _ _ _ _ => false) (fun _ => false) (fun _ _ => false) (fun _ _ _ _ => false) (fun _ => false) (fun _ => false) (fun _ _ _ _ => false) (fun K => K 0) (fun v _ _ ih K => ih fun r => asByte v fun b => natK (Nat.add b (Nat.mul 256 r)) K) (fun _ _ _ => false) (fun _ _ _ => false) l
/-- n bytes from off on, as one number. -/
noncomputable def bytesK (c : Body) (off n : Nat) (K : Nat → Bool) : Bool := Body.rec (motive := fun _ => Body → Nat → Nat → (Nat → Bool) → Bool)
  (fun len num _ off n K => andK (Nat.ble (Nat.add off n) len) (natK (Nat.mod (Nat.div num (Nat.pow 256 off)) (Nat.pow 256 n)) K))
  (fun _ k num _ off n K => andK (Nat.ble (Nat.add off n) k) (natK (Nat.mod (Nat.div num (Nat.pow 256 off)) (Nat.pow 256 n)) K))
  (fun _ _ c off n K => cellsK c off n .nil fun l => numL l K) c c off n K
theorem numL_sound {m : Map} : ∀ {l : AV} {vs : List Value} {K : Nat → Bool}, numL l K = true → relL m l vs → ∃ n, K n = true ∧ vs = (bytesOf vs.length n).map u8V := by
  intro l
  induction l with
  | nil => intro vs K h hr; cases hr; exact ⟨0, h, rfl⟩
  | cons v t _ ih =>
    intro vs K h hr
    obtain ⟨u, us, h1, h2, rfl⟩ := hr
    obtain ⟨r, h3, h4⟩ := ih h h2
    obtain ⟨b, rfl, hb, h5⟩ := asByte_sound h3
    rw [natK_eq] at h5
    refine ⟨_, h5, ?_⟩
    have e1 : UInt8.ofNat (Nat.add b (Nat.mul 256 r)) = UInt8.ofNat b := by
      rw [← ofNat_mod, show Nat.add b (Nat.mul 256 r) % 256 = b from by simp only [Nat.add_eq, Nat.mul_eq]; omega]
    have e2 : Nat.add b (Nat.mul 256 r) / 256 = r := by simp only [Nat.add_eq, Nat.mul_eq]; omega
    simp only [List.length_cons, bytesOf, List.map_cons, e1, e2]
    rw [← h4]
    congr 1
    rw [show u = _ from h1]
    simp only [u8V, UInt8.toNat_ofNat']
    rw [Nat.mod_eq_of_lt (by omega)]
    rfl
  | _ => intro vs K h; cases h
theorem numL_some : ∀ {l : AV} {K : Nat → Bool}, numL l K = true → ∃ n, K n = true := by
  intro l
  induction l with
  | nil => intro K h; exact ⟨0, h⟩
  | cons v t _ ih =>
    intro K h
    obtain ⟨r, h3⟩ := ih h
    obtain ⟨b, _, _, h5⟩ := asByte_sound h3
    rw [natK_eq] at h5
    exact ⟨_, h5⟩
  | _ => intro K h; cases h
theorem numL_same {m : Map} : ∀ {l : AV} {vs vs' : List Value} {K : Nat → Bool}, numL l K = true → relL m l vs → relL m l vs' → vs = vs' := by
  intro l
  induction l with
  | nil => intro vs vs' K h r r'; cases r; cases r'; rfl
  | cons v t _ ih =>
    intro vs vs' K h r r'
    obtain ⟨u, us, h1, h2, rfl⟩ := r
    obtain ⟨u', us', h1', h2', rfl⟩ := r'
    obtain ⟨x, h3⟩ := numL_some (l := t) h
    obtain ⟨b, rfl, _, _⟩ := asByte_sound h3
    rw [show u = _ from h1, show u' = _ from h1', ih h h2 h2']
  | _ => intro vs vs' K h; cases h
theorem bytesK_sound {c : Body} {off n : Nat} {K : Nat → Bool} {vs : List Value} (h : bytesK c off n K = true) (hb : bodyRel m c vs) : (n = 0 ∨ off + n ≤ vs.length) ∧ ∃ num, K num = true ∧ (vs.drop off).take n = (bytesOf n num).map u8V := by
  cases c with
  | bs len num =>
    obtain ⟨h1, h2⟩ := andK_sound h
    rw [natK_eq] at h2
    have h1 : off + n ≤ len := Nat.le_of_ble_eq_true h1
    have hb : vs = (bytesOf len num).map u8V := hb
    subst hb
    refine ⟨.inr (by simp [bytesOf_length]; exact h1), _, h2, ?_⟩
    rw [← List.map_drop, ← List.map_take, bytesOf_drop, bytesOf_take _ _ _ (by omega)]
    show _ = (bytesOf n (num / 256 ^ off % 256 ^ n)).map u8V
    rw [bytesOf_mod]
  | bu len k num =>
    obtain ⟨h1, h2⟩ := andK_sound h
    rw [natK_eq] at h2
    have h1 : off + n ≤ k := Nat.le_of_ble_eq_true h1
    obtain ⟨b1, b2, b3⟩ := hb
    refine ⟨.inr (by omega), _, h2, ?_⟩
    have e1 : (vs.drop off).take n = ((vs.take k).drop off).take n := by
      rw [List.drop_take, List.take_take, Nat.min_eq_left (by omega)]
    rw [e1, b3, ← List.map_drop, ← List.map_take, bytesOf_drop, bytesOf_take _ _ _ (by omega)]
    show _ = (bytesOf n (num / 256 ^ off % 256 ^ n)).map u8V
    rw [bytesOf_mod]
  | tr size t =>
    have h : cellsK (.tr size t) off n .nil (fun l => numL l K) = true := h
    obtain ⟨h1, l, h2, h3⟩ := cellsK_sound (m := m) h
    have h4 := h3 vs [] hb rfl
    rw [List.append_nil] at h4
    obtain ⟨num, h5, h6⟩ := numL_sound h2 h4
    have h1' : n = 0 ∨ off + n ≤ vs.length := by rw [hb.len]; exact h1
    have hl : ((vs.drop off).take n).length = n := by
      rcases h1' with g | g
      · subst g; simp
      · simp; omega
    rw [hl] at h6
    exact ⟨h1', num, h5, h6⟩
def u8El (P : Program) (t : TypeId) : Bool := match P.underlying t with
  | some (.slice el) => (match P.underlying el with | some (.int .u8) => true | _ => false)
  | _ => false
theorem u8El_sound {t : TypeId} (h : u8El P t = true) : ∃ el, P.underlying t = some (.slice el) ∧ P.underlying el = some (.int .u8) := by
  unfold u8El at h
  split at h
  · split at h
    · exact ⟨_, by assumption, by assumption⟩
    · cases h
  · cases h
noncomputable def isElB (P : Program) (s d : TypeId) : Bool := andK (Nat.beq (tyc P d) 7) (u8El P s)
noncomputable def strV0 (x : AV) (H : Hp) (K : AV → Bool) : Bool := AV.rec (motive := fun _ => (Hp) → (AV → Bool) → Bool) (fun _ _ => false) (fun _ _ _ => false) (fun _ _ _ _ => false) (fun _ _ _ _ => false) (fun _ _ => false) (fun _ _ _ _ => false) (fun  H K => K (.s 0 0)) (fun _ _ => false) (fun id off n c H K => blkK H id fun _ _ c => bytesK c off n fun num => K (.s n num)) (fun id off n k H K => blkK H id fun _ _ c => bytesK c off n fun num => K (.s n num)) (fun _ _ => false) (fun _ _ _ => false) (fun _ _ _ _ _ => false) (fun _ _ => false) (fun _ _ => false) (fun _ _ _ _ _ => false) (fun _ _ => false) (fun _ _ _ _ _ _ => false) (fun _ _ _ _ => false) (fun _ _ _ _ => false) x H K
noncomputable def lConv (s d : TypeId) (x : Operand) (P : Program) (L E : En) (H : Hp) (K : AV → Bool) : Bool := andK (isElB P s d) (strV0 (opV x L E) H K)
theorem lConv_sound {s d : TypeId} {K : AV → Bool} (hop : o.op = .convert s d x) (hi : Inv1 m H) (he : EnvRel m L E e) (hs : Mem W0 m H Fr w) (h : lConv s d x P L E H K = true) : LS P e o m w K := by
  obtain ⟨h1, h2⟩ := andK_sound h
  obtain ⟨h3, h4⟩ := andK_sound h1
  obtain ⟨el, h5, h6⟩ := u8El_sound h4
  have key : ∀ {id off n : Nat} {b' c' cap' : Nat}, m id = some (b', c') → ev e x = slc b' off n cap' → blkK H id (fun _ _ c => bytesK c off n fun num => K (.s n num)) = true → LS P e o m w K := by
    intro id off n b' c' cap' r1 r2 h7
    obtain ⟨T, z, c, h8, h9⟩ := blkK_sound h7
    obtain ⟨R, b, cap, vs, rest, h10, h11, h12, h13, _, _⟩ := hs.opn (hi.1.pos hi.2 r1) h8
    have hb : b' = b := by rw [h10] at r1; cases r1; rfl
    subst hb
    obtain ⟨h14, num, h15, h16⟩ := bytesK_sound h9 h11
    rcases h14 with g | g
    · subst g
      refine ⟨.s 0 num, strV (bytesOf 0 num), ?_, rfl, h15⟩
      unfold execOp; rw [hop]; simp only [r2]
      simp only [convert, Sem.run_bind, run_underlying' h5, run_underlying' (tyc7 h3), Result.andThen_ok, run_underlying' h6, Conv.bytesToString]
      simp [loadCells, loadCellsFrom, bytesOf]
      rfl
    · have hv : ((vs ++ rest).drop off).take n = (bytesOf n num).map u8V := by rw [List.drop_append_of_le_length (by omega), List.take_append_of_le_length (by simp; omega)]; exact h16
      exact ⟨.s n num, _, q_bytes_str hop h5 h6 (tyc7 h3) r2 (i := 0) rfl (by simp; omega) hv W0 w h13, rfl, h15⟩
  unfold strV0 at h2
  generalize hv : opV x L E = v at h2
  have hr := opR he hv
  cases v with
  | sn =>
    refine ⟨.s 0 0, strV (bytesOf 0 0), ?_, rfl, h2⟩
    unfold execOp; rw [hop]; simp only [show ev e x = _ from hr]
    simp only [convert, Sem.run_bind, run_underlying' h5, run_underlying' (tyc7 h3), Result.andThen_ok, run_underlying' h6, Conv.bytesToString]
    rfl
  | sl id off n cap => obtain ⟨b, c, r1, r2, _⟩ := hr; exact key r1 r2 h2
  | sv id off n k => obtain ⟨b, c, r1, _, r2⟩ := hr; exact key r1 r2 h2
  | _ => cases h2
end
end Go.Evl
namespace Go.Evl
open Go Go.Sl
abbrev HK := AV → Hp → Bool
def Post1 (W0 : World) (Fr : Assn) (m : Map) (K : HK) (v : Value) (w' : World) : Prop := ∃ m' H' av, Map.le m m' ∧ Inv1 m' H' ∧ rel m' av v ∧ Mem W0 m' H' Fr w' ∧ K av H' = true
def ES (P : Program) (e : Env) (o : Oper) (W0 : World) (Fr : Assn) (m : Map) (w : World) (K : HK) : Prop :=
  ∃ v w', ((execOp (ev e) o).run P w = .ok (.value v) w' ∨ ((execOp (ev e) o).run P w = .ok .skip w' ∧ v = undef)) ∧ Post1 W0 Fr m K v w'
section
variable {P : Program} {e : Env} {o : Oper} {m : Map} {L E : En} {x y : Operand} {W0 w : World} {H : Hp} {Fr : Assn} {K : HK}
theorem LS.es (hi : Inv1 m H) (hs : Mem W0 m H Fr w) (h : LS P e o m w (fun v => K v H)) : ES P e o W0 Fr m w K := by
  obtain ⟨av, v, h1, h2, h3⟩ := h
  exact ⟨v, w, .inl h1, m, H, av, Map.le_refl m, hi, h2, hs, h3⟩

/-! ### New blocks, blocks turned -/
noncomputable def newK (H : Hp) (T z : Nat) (c : Body) (K : Nat → Hp → Bool) : Bool := natK H.next fun id => setK (some (.cells T z c)) H.t id fun t => natK (Nat.succ id) fun n => K id ⟨n, t⟩
theorem newK_eq (H : Hp) (T z : Nat) (c : Body) (K : Nat → Hp → Bool) : newK H T z c K = K H.next ⟨H.next + 1, Tr.set (some (.cells T z c)) H.t H.next⟩ := by
  unfold newK; rw [natK_eq, setK_eq, natK_eq]
noncomputable def turnK (H : Hp) (id T z : Nat) (c : Body) (K : Hp → Bool) : Bool := setK (some (.cells T z c)) H.t id fun t => K ⟨H.next, t⟩
theorem turnK_eq (H : Hp) (id T z : Nat) (c : Body) (K : Hp → Bool) : turnK H id T z c K = K ⟨H.next, Tr.set (some (.cells T z c)) H.t id⟩ := by
  unfold turnK; rw [setK_eq]
theorem Mem.new {T z b cap : Nat} {c : Body} {vs rest : List Value} (hi : Inv1 m H) (hs : Sat W0 (sep (row b T (vs ++ rest) :: (hpA m H.t ++ [Fr]))) w) (hb : bodyRel m c vs) (hr : restOk z cap vs rest) :
    Map.le m (m.put H.next (b, cap)) ∧ Inv1 (m.put H.next (b, cap)) ⟨H.next + 1, Tr.set (some (.cells T z c)) H.t H.next⟩ ∧ (m.put H.next (b, cap)) H.next = some (b, cap) ∧
      Mem W0 (m.put H.next (b, cap)) ⟨H.next + 1, Tr.set (some (.cells T z c)) H.t H.next⟩ Fr w := by
  have hle := hi.1.le (x := (b, cap))
  refine ⟨hle, ⟨hi.1.put _, ?_⟩, Map.put_self, ?_⟩
  · unfold Map.put
    rw [if_neg (by have := hi.1.1; omega)]
    exact hi.2
  · have s1 := hs.mono (Ent.cons (Ent.asn (m := m.put H.next (b, cap)) (k := H.next) (z := z) Map.put_self (hb.mono hle) hr) (hp_mono hle H.t))
    exact s1.mono (hp_new H.t H.next hi.1.1 _ _)
theorem lay_append {vs rest us : List Value} {off : Nat} (h : off + us.length ≤ vs.length) : lay (vs ++ rest) off us = lay vs off us ++ rest := by
  rw [lay_eq _ _ _ (by simp; omega), lay_eq _ _ _ h, List.take_append_of_le_length (by omega), List.drop_append_of_le_length (by omega)]
  simp
theorem restOk.same {z cap : Nat} {vs vs' rest : List Value} (h : restOk z cap vs rest) (hl : vs'.length = vs.length) : restOk z cap vs' rest :=
  ⟨h.1, fun hz => by obtain ⟨h1, h2, n, h3⟩ := h.2 hz; exact ⟨by simp only [List.length_append] at h1 ⊢; omega, h2, n, by rw [hl, h3]⟩⟩
theorem restOk.row {cap : Nat} {vs : List Value} : restOk 0 cap vs [] := ⟨fun _ => rfl, fun h => absurd rfl h⟩

/-! ### alloc, box, makeSlice, literals of slices -/
noncomputable def eAlloc (t : TypeId) (P : Program) (L E : En) (H : Hp) (K : HK) : Bool := optK (tyB P t) fun q => bodyK (bodyOf q.2.2) fun c => newK H t 0 c fun id H => K (.p id 0) H
theorem eAlloc_sound {t : TypeId} (hop : o.op = .alloc t) (hi : Inv1 m H) (hs : Mem W0 m H Fr w) (h : eAlloc t P L E H K = true) : ES P e o W0 Fr m w K := by
  obtain ⟨⟨sz, bytes, z⟩, h1, h2⟩ := optK_sound h
  rw [bodyK_eq, newK_eq] at h2
  obtain ⟨v, w', Hs', hr, ⟨b, rfl, rfl⟩, s1⟩ := e_alloc (P := P) (e := e) hop (tyB_sound h1) W0 w hs
  have s2 : Sat W0 (sep (row b t (z ++ []) :: (hpA m H.t ++ [Fr]))) w' := by rw [List.append_nil]; exact s1
  obtain ⟨k1, k2, k3, k4⟩ := Mem.new (cap := 0) hi s2 (bodyOf_rel m z) restOk.row
  exact ⟨_, w', hr, _, _, .p H.next 0, k1, k2, ⟨b, 0, k3, rfl⟩, k4, h2⟩
noncomputable def eBox (t : TypeId) (x : Operand) (P : Program) (L E : En) (H : Hp) (K : HK) : Bool := optK (tyB P t) fun q => partsV (opV x L E) fun l => andK (Nat.beq (lenL l) q.1) (andK (Nat.beq q.2.2.length q.1) (putsK l (bodyOf q.2.2) 0 fun c => newK H t 0 c fun id H => K (.p id 0) H))
theorem eBox_sound {t : TypeId} (hop : o.op = .box t x) (hi : Inv1 m H) (he : EnvRel m L E e) (hs : Mem W0 m H Fr w) (h : eBox t x P L E H K = true) : ES P e o W0 Fr m w K := by
  obtain ⟨⟨sz, bytes, z⟩, h1, h2⟩ := optK_sound h
  obtain ⟨l, h3, h4⟩ := partsV_sound h2 (opV_rel he x)
  obtain ⟨h5, h6⟩ := andK_sound h4
  obtain ⟨h7, h8⟩ := andK_sound h6
  obtain ⟨c, h9, h10, h11⟩ := putsK_sound (m := m) h8
  rw [newK_eq] at h9
  obtain ⟨v, w', Hs', hr, ⟨b, rfl, rfl⟩, s1⟩ := e_box (P := P) hop rfl rfl W0 w hs
  have h12 := (h11 z _ (bodyOf_rel m z) h3).2.2
  have hz : z.length = sz := Nat.eq_of_beq_eq_true h7
  have hl : (ev e x).cells.toList.length = sz := by rw [← lenL_rel h3]; exact Nat.eq_of_beq_eq_true h5
  rw [lay_all (by omega)] at h12
  have s2 : Sat W0 (sep (row b t ((ev e x).cells.toList ++ []) :: (hpA m H.t ++ [Fr]))) w' := by rw [List.append_nil]; exact s1
  obtain ⟨k1, k2, k3, k4⟩ := Mem.new (cap := 0) hi s2 h12 restOk.row
  exact ⟨_, w', hr, _, _, .p H.next 0, k1, k2, ⟨b, 0, k3, rfl⟩, k4, h9⟩
def slElB (P : Program) (t : TypeId) : Option TypeId := match P.underlying t with
  | some (.slice el) => some el
  | _ => none
theorem slElB_sound {t el : TypeId} (h : slElB P t = some el) : P.underlying t = some (.slice el) := by
  unfold slElB at h; split at h
  · cases h; assumption
  · cases h
noncomputable def eMakeSlice (t : TypeId) (x y : Operand) (P : Program) (L E : En) (H : Hp) (K : HK) : Bool := optK (slElB P t) fun el => optK (tyB P el) fun q => andK (Nat.beq q.2.2.length q.1) (ints (opV x L E) (opV y L E) fun k a b =>
  andK (Nat.beq (kc k) 3) (nn a b (fun n c => andK (Nat.ble n c) (andK (Nat.ble c 9223372036854775807) (andK (Nat.ble (Nat.mul q.2.1 c) 281474976710656) (natK n fun n => natK c fun c => bodyK (repBody c q.2.2) fun bd => newK H el 0 bd fun id H => K (.sl id 0 n c) H)))) fun _ _ => false))
theorem eMakeSlice_sound {t : TypeId} (hop : o.op = .makeSlice t x y) (hi : Inv1 m H) (he : EnvRel m L E e) (hs : Mem W0 m H Fr w) (h : eMakeSlice t x y P L E H K = true) : ES P e o W0 Fr m w K := by
  obtain ⟨el, h1, h2⟩ := optK_sound h
  obtain ⟨⟨sz, bytes, z⟩, h3, h4⟩ := optK_sound h2
  obtain ⟨h5, h6⟩ := andK_sound h4
  obtain ⟨k, a, b, h7, h8, h9⟩ := ints_sound h6
  obtain ⟨h10, h11⟩ := andK_sound h9
  have hk : k = .i64 := kc_inj (k' := .i64) h10
  subst hk
  rcases nn_sound h11 with ⟨n, c, rfl, rfl, h12⟩ | h12
  · obtain ⟨g1, h12⟩ := andK_sound h12
    obtain ⟨g2, h12⟩ := andK_sound h12
    obtain ⟨g3, h12⟩ := andK_sound h12
    rw [natK_eq, natK_eq, bodyK_eq, newK_eq] at h12
    have g1 := Nat.le_of_ble_eq_true g1
    have g2 := Nat.le_of_ble_eq_true g2
    have g3 := Nat.le_of_ble_eq_true g3
    have g3 : bytes * c ≤ 281474976710656 := g3
    have hx := opI he h7
    have hy := opI he h8
    obtain ⟨v, w', Hs', hr, ⟨bb, rfl, rfl⟩, s1⟩ := e_makeSlice (P := P) hop (slElB_sound h1) (tyB_sound h3) (Nat.eq_of_beq_eq_true h5) hx hy ⟨Int.natCast_nonneg n, Int.ofNat_le.2 g1, Int.ofNat_le.2 g2, by show ((bytes : Nat) : Int) * ((c : Nat) : Int) ≤ ((281474976710656 : Nat) : Int); rw [← Int.natCast_mul]; exact Int.ofNat_le.2 g3⟩ W0 w hs
    simp only [Int.ofNat_eq_natCast, Int.toNat_natCast] at hr s1
    have s2 : Sat W0 (sep (row bb el (zeros c z ++ []) :: (hpA m H.t ++ [Fr]))) w' := by rw [List.append_nil]; exact s1
    obtain ⟨k1, k2, k3, k4⟩ := Mem.new (cap := 0) hi s2 (repBody_rel m c z) restOk.row
    exact ⟨_, w', hr, _, _, .sl H.next 0 n c, k1, k2, ⟨bb, 0, k3, rfl, g1⟩, k4, h12⟩
  · cases h12
noncomputable def eBuildSlice (t : TypeId) (n : Nat) (ps : Array (Nat × Operand)) (P : Program) (L E : En) (H : Hp) (K : HK) : Bool := optK (slElB P t) fun el => optK (tyB P el) fun q => andK (Nat.beq q.2.2.length q.1) (andK (Nat.ble (Nat.mul n q.1) 16777216) (
  bodyK (repBody n q.2.2) fun bd => fillK ((List.range n).map fun i => (i * q.1, q.1)) L E ps.toList bd fun c => newK H el 0 c fun id H => K (.sl id 0 n n) H))
theorem eBuildSlice_sound {t : TypeId} {n : Nat} {ps : Array (Nat × Operand)} (hop : o.op = .buildSlice t n ps) (hi : Inv1 m H) (he : EnvRel m L E e) (hs : Mem W0 m H Fr w) (h : eBuildSlice t n ps P L E H K = true) : ES P e o W0 Fr m w K := by
  obtain ⟨el, h1, h2⟩ := optK_sound h
  obtain ⟨⟨sz, bytes, z⟩, h3, h4⟩ := optK_sound h2
  obtain ⟨h5, h6⟩ := andK_sound h4
  obtain ⟨h7, h8⟩ := andK_sound h6
  rw [bodyK_eq] at h8
  have hzl : z.length = sz := Nat.eq_of_beq_eq_true h5
  obtain ⟨inf, zv, hi1, hi2, hi3, hi4, hi5⟩ := tyB_sound h3
  have hzv : zv.cells = z.toArray := by rw [← hi5]
  have hp : ∀ i x, ((List.range n).map fun i => (i * sz, sz))[i]? = some x → (fun i => some (i * sz, sz)) i = some x := by
    intro i x hx
    rw [List.getElem?_map] at hx
    cases hr : (List.range n)[i]? with
    | none => rw [hr] at hx; cases hx
    | some j =>
      rw [hr] at hx
      have : j = i := by
        have hlt : i < n := by
          rcases Nat.lt_or_ge i n with g | g
          · exact g
          · rw [List.getElem?_eq_none (by simpa using g)] at hr; cases hr
        rw [List.getElem?_range hlt] at hr
        cases hr; rfl
      subst this
      exact hx
  obtain ⟨c', cs', g1, g2, g3, g4, g5⟩ := fillK_sound he hp h8 (repBody_rel m n z)
  rw [newK_eq] at g4
  obtain ⟨b, w', r1, r2⟩ := run_newRow (P := P) hs el cs'
  have h24 : ¬ (n * sz > 2 ^ 24) := by
    have : (2 : Nat) ^ 24 = 16777216 := by decide
    have := Nat.le_of_ble_eq_true h7
    have h7 : n * sz ≤ 16777216 := this
    omega
  have hf : Instr.fill (fun i => some (i * sz, sz)) (zeros n z).toArray (ps.map fun p => (p.1, ev e p.2)).toList = some cs'.toArray := by rw [← g5]; simp
  have hrun : (execOp (ev e) o).run P w = .ok (.value (slc b 0 n n)) w' := by
    unfold execOp; rw [hop]
    simp only [Instr.buildSlice, Sem.run_bind, run_underlying' (slElB_sound h1), Result.andThen_ok, sizeOf, typeInfo, run_program, hi1, Sem.run_pure, hi2, h24, if_false]
    by_cases hz0 : n * sz = 0
    · rw [if_pos hz0]
      have hz1 : zeros n z = [] := List.eq_nil_of_length_eq_zero (by rw [zeros_length, hzl]; exact hz0)
      rw [hz1] at hf
      have e2 : (Array.range (n * sz)).map ((#[] : Array Value)[· % (#[] : Array Value).size]!) = ([] : List Value).toArray := by rw [hz0]; simp
      simp only [Sem.run_bind, Sem.run_pure, Result.andThen_ok]
      rw [e2, hf]
      simp only [Sem.run_bind, r1, Result.andThen_ok, Sem.run_pure]
    · rw [if_neg hz0]
      simp only [Sem.run_bind, zeroValue, typeInfo, run_program, Result.andThen_ok, hi1, Sem.run_pure, hi4]
      have e2 : (Array.range (n * sz)).map (zv.cells[· % zv.cells.size]!) = (zeros n z).toArray := by
        rw [← zeros_eq, hzl, hzv]
        simp only [Array.toArray_toList, List.size_toArray, hzl]
      rw [e2, hf]
      simp only [Sem.run_bind, r1, Result.andThen_ok, Sem.run_pure]
  have s2 : Sat W0 (sep (row b el (cs' ++ []) :: (hpA m H.t ++ [Fr]))) w' := by rw [List.append_nil]; exact r2
  obtain ⟨k1, k2, k3, k4⟩ := Mem.new (cap := 0) hi s2 g1 restOk.row
  exact ⟨_, w', .inl hrun, _, _, .sl H.next 0 n n, k1, k2, ⟨b, 0, k3, rfl, Nat.le_refl _⟩, k4, g4⟩
/-! ### Stores -/
noncomputable def eStore (t : TypeId) (x y : Operand) (P : Program) (L E : En) (H : Hp) (K : HK) : Bool := asP (opV x L E) fun id off => blkK H id fun T z c => partsV (opV y L E) fun l => optK (szB P t) fun sz => andK (Nat.beq (lenL l) sz) (andK (Nat.ble (Nat.add off sz) c.size) (putsK l c off fun c => turnK H id T z c fun H => K (.tup .nil) H))
theorem eStore_sound {t : TypeId} (hop : o.op = .store t x y) (hi : Inv1 m H) (he : EnvRel m L E e) (hs : Mem W0 m H Fr w) (h : eStore t x y P L E H K = true) : ES P e o W0 Fr m w K := by
  obtain ⟨id, off, h1, h2⟩ := asP_sound h
  obtain ⟨b', c', r1, r2⟩ := (opR he h1 : rel m (.p id off) _)
  obtain ⟨T, z, c, h3, h4⟩ := blkK_sound h2
  obtain ⟨l, h5, h6⟩ := partsV_sound h4 (opV_rel he y)
  obtain ⟨sz, h7, h8⟩ := optK_sound h6
  obtain ⟨h9, h10⟩ := andK_sound h8
  obtain ⟨h11, h12⟩ := andK_sound h10
  obtain ⟨c2, h13, h14, h15⟩ := putsK_sound (m := m) h12
  rw [turnK_eq] at h13
  obtain ⟨R, b, cap, vs, rest, g1, g2, g3, g4, g5, _⟩ := hs.opn (hi.1.pos hi.2 r1) h3
  have hb : b' = b := by rw [g1] at r1; cases r1; rfl
  subst hb
  have h16 := h15 vs _ g2 h5
  have hl : (ev e y).cells.toList.length = sz := by rw [← lenL_rel h5]; exact Nat.eq_of_beq_eq_true h9
  have hle : off + sz ≤ vs.length := by rw [g2.len]; exact Nat.le_of_ble_eq_true h11
  obtain ⟨w', a1, a2⟩ := run_storeVar (P := P) (v := ev e y) (off := off) g4 (szB_s h7) rfl hl h16.2.1 (i := 0) rfl (by simp; omega)
  have hrun : (execOp (ev e) o).run P w = .ok .skip w' := by
    unfold execOp; rw [hop]; simp only [r2]
    simp only [Instr.storeAt, Instr.sureAddr, Sem.run_bind, Sem.run_pure, Result.andThen_ok, a1]
  have a3 : Sat W0 (sep (row b' T (lay vs off (ev e y).cells.toList ++ rest) :: (R.map (asn m) ++ [Fr]))) w' := by
    have e1 := lay_append (rest := rest) (off := off) (us := (ev e y).cells.toList) (vs := vs) (by omega)
    rw [← e1]; exact a2
  refine ⟨undef, w', .inr ⟨hrun, rfl⟩, m, _, .tup .nil, Map.le_refl m, ⟨hi.1.tree _, hi.2⟩, ⟨[], rfl, rfl⟩, ?_, h13⟩
  exact (a3.mono (Ent.cons (Ent.asn g1 h16.2.2 (g3.same (by rw [lay_length]))) (Ent.refl _))).mono (g5 m _)
/-! ### Texts as bytes -/
noncomputable def eConv (s d : TypeId) (x : Operand) (P : Program) (L E : En) (H : Hp) (K : HK) : Bool := andK (Nat.beq (tyc P s) 7) (andK (u8El P d) (optK (slElB P d) fun el => asS (opV x L E) fun l n => andK (Nat.ble l 9223372036854775807) (natK l fun l => natK n fun n => newK H el 1 (.bs l n) fun id H => K (.sv id 0 l 0) H)))
theorem eConv_sound {s d : TypeId} (hop : o.op = .convert s d x) (hi : Inv1 m H) (he : EnvRel m L E e) (hs : Mem W0 m H Fr w) (h : eConv s d x P L E H K = true) : ES P e o W0 Fr m w K := by
  obtain ⟨h1, h2⟩ := andK_sound h
  obtain ⟨h3, h4⟩ := andK_sound h2
  obtain ⟨el, h5, h6⟩ := optK_sound h4
  obtain ⟨l, n, h7, h8⟩ := asS_sound h6
  obtain ⟨h9, h10⟩ := andK_sound h8
  rw [natK_eq, natK_eq, newK_eq] at h10
  obtain ⟨el', g1, g2⟩ := u8El_sound h3
  have g3 := slElB_sound h5
  have hel : el' = el := by rw [g1] at g3; cases g3; rfl
  subst hel
  have h9 := Nat.le_of_ble_eq_true h9
  obtain ⟨v, w', Hs', hr, ⟨b, cap, c1, c2, rfl, rfl⟩, s1⟩ := e_str_bytes (P := P) hop (tyc7 h1) g1 g2 (opS he h7) (by rw [bytesOf_length]; exact h9) W0 w hs
  rw [bytesOf_length] at hr s1 c1
  obtain ⟨k1, k2, k3, k4⟩ := Mem.new (z := 1) (cap := cap) (c := .bs l n) hi s1 (by rfl) (show restOk 1 cap _ _ from ⟨fun h => (by cases h), fun _ => ⟨by simp [bytesOf_length]; omega, c2, l, by simp [bytesOf_length]⟩⟩)
  exact ⟨_, w', hr, _, _, .sv H.next 0 l 0, k1, k2, ⟨b, cap, k3, by omega, rfl⟩, k4, h10⟩
end
end Go.Evl
