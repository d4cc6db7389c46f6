/-
  The evaluator: texts gone through, maps. It proves nothing of the program by itself.
-/
import Derived.Test.YtbbgajjonodlfaaGreatGEv11
import Derived.Laws.RangeString
set_option linter.unusedVariables false
set_option linter.unusedSimpArgs false
namespace Go.Evl
open Go Go.Sl
section
variable {P : Program} {e : Env} {o : Oper} {m : Map} {L E : En} {x y z : Operand} {W0 w : World} {H : Hp} {Fr : Assn} {K : HK}
def notCells : Blk → Prop
  | .cells _ _ _ => False
  | .gd _ _ _ _ => False
  | _ => True
theorem asn_obj {id : Nat} {B : Blk} (h : notCells B) : asn m (id, B) = asnO m id B := by
  cases B with
  | cells T z c => exact h.elim
  | gd g c T cs => exact h.elim
  | it l n pos => rfl
  | mp ks vs => rfl
  | mi i k n => rfl
  | lp E ps assign body mask N st pend => rfl
theorem objRel.not {B : Blk} {u : Obj} (h : objRel m B u) : notCells B := by
  cases B with
  | gd g c T cs => exact h
  | cells T z c => exact h
  | it l n pos => trivial
  | mp ks vs => trivial
  | mi i k n => trivial
  | lp E ps assign body mask N st pend => trivial
/-- A block that is no row, as it lies in the memory; the rest beside it. -/
theorem Mem.opnO {id : Nat} {B : Blk} (hs : Mem W0 m H Fr w) (hid : 1 ≤ id) (hg : H.t.get id = some B) (hB : notCells B) :
    ∃ (R : List (Nat × Blk)) (b cap : Nat) (u : Obj), m id = some (b, cap) ∧ objRel m B u ∧ Sat W0 (sep (blk b u :: (R.map (asn m) ++ [Fr]))) w ∧
      (∀ m blk, Ent (sep (asn m (id, blk) :: (R.map (asn m) ++ [Fr]))) (sep (hpA m (Tr.set (some blk) H.t id) ++ [Fr]))) := by
  obtain ⟨R, h1, h2, h3⟩ := hp_lens (Fr := Fr) H.t id hid
  have s1 := hs.mono (h1 m _ hg)
  rw [asn_obj hB] at s1
  obtain ⟨k', x, hx, g1, g2, d, rfl, ⟨b, cap, u, e1, e2, e3⟩, hl⟩ := s1
  exact ⟨R, b, cap, u, e1, e2, ⟨k', _, hx, g1, g2, d, rfl, e3, hl⟩, h2⟩
theorem Ent.asnO {id b cap : Nat} {B : Blk} {u : Obj} (h1 : m id = some (b, cap)) (h2 : objRel m B u) : Ent (blk b u) (Evl.asn m (id, B)) := by
  rw [asn_obj h2.not]
  exact Ent.of_imp fun _ h => ⟨b, cap, u, h1, h2, h⟩
noncomputable def newO (H : Hp) (B : Blk) (K : Nat → Hp → Bool) : Bool := natK H.next fun id => setK (some B) H.t id fun t => natK (Nat.succ id) fun n => K id ⟨n, t⟩
theorem newO_eq (H : Hp) (B : Blk) (K : Nat → Hp → Bool) : newO H B K = K H.next ⟨H.next + 1, Tr.set (some B) H.t H.next⟩ := by
  unfold newO; rw [natK_eq, setK_eq, natK_eq]
noncomputable def turnO (H : Hp) (id : Nat) (B : Blk) (K : Hp → Bool) : Bool := setK (some B) H.t id fun t => K ⟨H.next, t⟩
theorem turnO_eq (H : Hp) (id : Nat) (B : Blk) (K : Hp → Bool) : turnO H id B K = K ⟨H.next, Tr.set (some B) H.t id⟩ := by
  unfold turnO; rw [setK_eq]
theorem Mem.newO {b : Nat} {B : Blk} {u : Obj} (hi : Inv1 m H) (hs : Sat W0 (sep (blk b u :: (hpA m H.t ++ [Fr]))) w) (hu : objRel m B u) :
    Map.le m (m.put H.next (b, 0)) ∧ Inv1 (m.put H.next (b, 0)) ⟨H.next + 1, Tr.set (some B) H.t H.next⟩ ∧ (m.put H.next (b, 0)) H.next = some (b, 0) ∧
      Mem W0 (m.put H.next (b, 0)) ⟨H.next + 1, Tr.set (some B) H.t H.next⟩ Fr w := by
  have hle := hi.1.le (x := (b, 0))
  refine ⟨hle, ⟨hi.1.put _, ?_⟩, Map.put_self, ?_⟩
  · unfold Map.put
    rw [if_neg (by have := hi.1.1; omega)]
    exact hi.2
  · have s1 := hs.mono (Ent.cons (Ent.asnO (m := m.put H.next (b, 0)) (id := H.next) Map.put_self (hu.mono hle)) (hp_mono hle H.t))
    exact s1.mono (hp_new H.t H.next hi.1.1 _ _)
theorem run_setObj {b : Nat} {u u' : Obj} {Hs : List Assn} {B : Blk} (hu : objRel m B u) (s : Sat W0 (sep (blk b u :: Hs)) w) : ∃ w', (setObj b u').run P w = .ok () w' ∧ Sat W0 (sep (blk b u' :: Hs)) w' := by
  have hb := s.get (i := 0) rfl
  have hlt : b < w.heap.size := by
    rcases Nat.lt_or_ge b w.heap.size with g | g
    · exact g
    · rw [Array.getElem?_eq_none g] at hb; cases hb
  refine ⟨{ w with heap := w.heap.setIfInBounds b u' }, by
    cases u with
    | cells a b c => cases B <;> first | exact hu.elim | (cases hu; done) | (obtain ⟨_, _, _, g⟩ := hu; cases g; done) | (obtain ⟨_, _, _, _, _, _, _, _, g⟩ := hu; cases g)
    | _ => simp [setObj, Sem.run, hb], s.put (i := 0) rfl ⟨rfl, rfl, rfl, by simp⟩ ?_ (fun k hk _ => ?_)⟩
  · simp [Array.getElem?_setIfInBounds, hlt]
  · simp [Array.getElem?_setIfInBounds, Ne.symm hk]
/-! ### Texts gone through -/
noncomputable def eRange (t : TypeId) (x : Operand) (P : Program) (L E : En) (H : Hp) (K : HK) : Bool := andK (Nat.beq (tyc P t) 7) (asS (opV x L E) fun l n => natK l fun l => natK n fun n => newO H (.it l n 0) fun id H => K (.p id 0) H)
theorem eRange_sound {t : TypeId} (hop : o.op = .range t x) (hi : Inv1 m H) (he : EnvRel m L E e) (hs : Mem W0 m H Fr w) (h : eRange t x P L E H K = true) : ES P e o W0 Fr m w K := by
  obtain ⟨h1, h2⟩ := andK_sound h
  obtain ⟨l, n, h3, h4⟩ := asS_sound h2
  rw [natK_eq, natK_eq, newO_eq] at h4
  have hx : ev e x = strV (bytesOf l n) := opS he h3
  obtain ⟨k1, k2, k3, k4⟩ := Mem.newO (B := .it l n 0) hi (hs.alloc (.stringIter ⟨(bytesOf l n).toArray⟩ 0)) rfl
  refine ⟨_, _, .inl ?_, _, _, .p H.next 0, k1, k2, ⟨w.heap.size, 0, k3, rfl⟩, k4, h4⟩
  unfold execOp; rw [hop]; simp only [hx]
  unfold strV Instr.range
  simp only [Sem.run_bind, run_underlying' (tyc7 h1), Result.andThen_ok, Sem.run_pure]
  rfl
noncomputable def itK (H : Hp) (id : Nat) (K : Nat → Nat → Nat → Bool) : Bool := optK (H.t.get id) fun b => Blk.rec (motive := fun _ => (Nat → Nat → Nat → Bool) → Bool) (fun _ _ _ _ => false) (fun l n p K => K l n p) (fun _ _ _ => false) (fun _ _ _ _ => false) (fun _ _ _ _ _ _ _ _ _ => false) (fun _ _ _ _ _ => false) b K
theorem itK_sound {id : Nat} {K : Nat → Nat → Nat → Bool} (h : itK H id K = true) : ∃ l n p, H.t.get id = some (.it l n p) ∧ K l n p = true := by
  obtain ⟨b, h1, h2⟩ := optK_sound h
  cases b with
  | it l n p => exact ⟨l, n, p, h1, h2⟩
  | _ => cases h2
noncomputable def eNext (x : Operand) (s : Bool) (P : Program) (L E : En) (H : Hp) (K : HK) : Bool := andK s (asP (opV x L E) fun id off => andK (Nat.beq off 0) (itK H id fun l n pos => Bool.rec (motive := fun _ => Bool)
  (K (.tup (.cons (.b false) .nil)) H)
  (natK (Nat.mod (Nat.div n (Nat.pow 256 pos)) 256) fun c => Bool.rec (motive := fun _ => Bool)
    (Prod.rec (motive := fun _ => Bool) (fun c d => natK c fun c => natK d fun d => natK (Nat.add pos d) fun q => turnO H id (.it l n q) fun H => K (.tup (.cons (.b true) (.cons (.i .i64 (Int.ofNat pos)) (.cons (.i .i32 (Int.ofNat c)) .nil)))) H) (Utf8.decode ⟨(bytesOf l n).toArray⟩ pos))
    (natK (Nat.succ pos) fun q => turnO H id (.it l n q) fun H => K (.tup (.cons (.b true) (.cons (.i .i64 (Int.ofNat pos)) (.cons (.i .i32 (Int.ofNat c)) .nil)))) H) (Nat.blt c 128))
  (Nat.blt pos l)))
theorem eNext_sound {s : Bool} (hop : o.op = .next x s) (hi : Inv1 m H) (he : EnvRel m L E e) (hs : Mem W0 m H Fr w) (h : eNext x s P L E H K = true) : ES P e o W0 Fr m w K := by
  obtain ⟨h1, h2⟩ := andK_sound h
  subst h1
  obtain ⟨id, off, h3, h4⟩ := asP_sound h2
  obtain ⟨h5, h6⟩ := andK_sound h4
  have h5 := Nat.eq_of_beq_eq_true h5
  subst h5
  obtain ⟨l, n, pos, h7, h8⟩ := itK_sound h6
  obtain ⟨b', c', r1, r2⟩ := (opR he h3 : rel m (.p id 0) _)
  obtain ⟨R, b, cap, u, g1, g2, g3, g4⟩ := hs.opnO (hi.1.pos hi.2 r1) h7 trivial
  have hb : b' = b := by rw [g1] at r1; cases r1; rfl
  subst hb
  have g2 : u = .stringIter ⟨(bytesOf l n).toArray⟩ pos := g2
  subst g2
  have hget : (getObj b').run P w = .ok (.stringIter ⟨(bytesOf l n).toArray⟩ pos) w := by
    have := g3.get (i := 0) rfl
    simp [getObj, Sem.run, this]
  have hsz : (ByteArray.mk (bytesOf l n).toArray).size = l := by show (bytesOf l n).toArray.size = l; simp [bytesOf_length]
  have hrun : (execOp (ev e) o).run P w = ((Instr.next (ptr b' 0) true o.type).run P w).andThen fun v => (pure (Next.value v) : Sem Next).run P := by
    unfold execOp; rw [hop]; simp only [r2]
    simp only [Sem.run_bind]
  cases hlt : Nat.blt pos l with
  | false =>
    rw [hlt] at h8
    have hn : ¬ pos < l := fun g => by rw [show Nat.blt pos l = true from by simpa using g] at hlt; cases hlt
    refine ⟨_, w, .inl ?_, m, H, .tup (.cons (.b false) .nil), Map.le_refl m, hi, ⟨[.bool false], ⟨.bool false, [], rfl, rfl, rfl⟩, rfl⟩, hs, h8⟩
    rw [hrun]
    unfold Instr.next ptr
    simp only [Sem.run_bind, hget, Result.andThen_ok, hsz, hn, if_false, Sem.run_pure]
  | true =>
    rw [hlt] at h8
    have hp : pos < l := blt_lt hlt
    have fin : ∀ c d : Nat, Utf8.decode (ByteArray.mk (bytesOf l n).toArray) pos = (c, d) → K (.tup (.cons (.b true) (.cons (.i .i64 (Int.ofNat pos)) (.cons (.i .i32 (Int.ofNat c)) .nil)))) ⟨H.next, Tr.set (some (.it l n (pos + d))) H.t id⟩ = true → ES P e o W0 Fr m w K := by
      intro c d hdec h10
      obtain ⟨w', a1, a2⟩ := run_setObj (P := P) (m := m) (B := .it l n pos) (u' := .stringIter ⟨(bytesOf l n).toArray⟩ (pos + d)) rfl g3
      refine ⟨.tuple #[.bool true, goInt (pos : Nat), .int .i32 ((c : Nat) : Int)], w', .inl ?_, m, ⟨H.next, Tr.set (some (.it l n (pos + d))) H.t id⟩, .tup (.cons (.b true) (.cons (.i .i64 (Int.ofNat pos)) (.cons (.i .i32 (Int.ofNat c)) .nil))), Map.le_refl m, ⟨hi.1.tree _, hi.2⟩, ⟨[_, _, _], ⟨_, _, rfl, ⟨_, _, rfl, ⟨_, _, rfl, rfl, rfl⟩, rfl⟩, rfl⟩, rfl⟩, ?_, h10⟩
      · rw [hrun]
        unfold Instr.next ptr
        simp only [Sem.run_bind, hget, Result.andThen_ok, hsz, hp, if_true, hdec, a1, Sem.run_pure]
      · exact (a2.mono (Ent.cons (Ent.asnO (B := .it l n (pos + d)) g1 rfl) (Ent.refl _))).mono (g4 m _)
    have h8 : natK (Nat.mod (Nat.div n (Nat.pow 256 pos)) 256) (fun c => Bool.rec (motive := fun _ => Bool)
      (Prod.rec (motive := fun _ => Bool) (fun c d => natK c fun c => natK d fun d => natK (Nat.add pos d) fun q => turnO H id (.it l n q) fun H => K (.tup (.cons (.b true) (.cons (.i .i64 (Int.ofNat pos)) (.cons (.i .i32 (Int.ofNat c)) .nil)))) H) (Utf8.decode ⟨(bytesOf l n).toArray⟩ pos))
      (natK (Nat.succ pos) fun q => turnO H id (.it l n q) fun H => K (.tup (.cons (.b true) (.cons (.i .i64 (Int.ofNat pos)) (.cons (.i .i32 (Int.ofNat c)) .nil)))) H) (Nat.blt c 128)) = true := h8
    rw [natK_eq] at h8
    cases hb : Nat.blt (Nat.mod (Nat.div n (Nat.pow 256 pos)) 256) 128 with
    | false =>
      rw [hb] at h8
      generalize hd : Utf8.decode ⟨(bytesOf l n).toArray⟩ pos = q at h8
      obtain ⟨c, d⟩ := q
      simp only [natK_eq, turnO_eq] at h8
      exact fin c d hd h8
    | true =>
      rw [hb] at h8
      simp only [natK_eq, turnO_eq] at h8
      have h9 := blt_lt hb
      have hbyte : (ByteArray.mk (bytesOf l n).toArray)[pos]'(by rw [hsz]; exact hp) = UInt8.ofNat (n / 256 ^ pos) := by
        have h1 := bytesOf_get l n pos hp
        show (bytesOf l n).toArray[pos]'(by simpa [bytesOf_length] using hp) = _
        rw [List.getElem?_eq_some_iff] at h1
        obtain ⟨_, h1⟩ := h1
        simpa using h1
      have hc : (UInt8.ofNat (n / 256 ^ pos)).toNat = Nat.mod (Nat.div n (Nat.pow 256 pos)) 256 := by
        rw [UInt8.toNat_ofNat']; rfl
      have hdec := decode_ascii (ByteArray.mk (bytesOf l n).toArray) pos (by rw [hsz]; exact hp) (by rw [hbyte, hc]; exact h9)
      rw [hbyte, hc] at hdec
      exact fin _ 1 hdec h8
/-! ### Maps -/
theorem entsV_get : ∀ (i : Nat) (kvs : List (Value × Value)) (j : Nat), (entsV i kvs)[j]? = kvs[j]?.map fun kv => { key := kv.1, val := kv.2, born := i + j }
  | _, [], _ => rfl
  | i, (k, v) :: r, 0 => rfl
  | i, _ :: r, j + 1 => by
    rw [entsV, List.getElem?_cons_succ, entsV_get (i + 1) r j, List.getElem?_cons_succ, show i + 1 + j = i + (j + 1) from by omega]
theorem entsV_push : ∀ (i : Nat) (kvs : List (Value × Value)) (k : Value) (v : Value), entsV i (kvs ++ [(k, v)]) = entsV i kvs ++ [{ key := k, val := v, born := i + kvs.length }]
  | i, [], k, v => rfl
  | i, (k0, v0) :: r, k, v => by
    rw [List.cons_append, entsV, entsV, entsV_push (i + 1) r, List.cons_append, List.length_cons, show i + 1 + r.length = i + (r.length + 1) from by omega]
theorem entsV_set : ∀ (i : Nat) (kvs : List (Value × Value)) (j : Nat) (k : Value) (v : Value), entsV i (kvs.set j (k, v)) = (entsV i kvs).modify j (fun e => { e with key := k, val := v })
  | _, [], j, _, _ => by cases j <;> rfl
  | i, (k0, v0) :: r, 0, k, v => rfl
  | i, (k0, v0) :: r, j + 1, k, v => by
    rw [List.set_cons_succ, entsV, entsV, entsV_set (i + 1) r j k v]
    rfl
/-- What a key can be: an integer, a text, a truth value. -/
def keyTy (P : Program) (t : TypeId) : Option (TypeId × TypeId × Nat) := match P.underlying t with
  | some (.map k el) => match P.underlying k with
    | some (.int _) => some (k, el, 0)
    | some .string => some (k, el, 1)
    | some .bool => some (k, el, 2)
    | _ => none
  | _ => none
def kdOk (d : TypeDesc) (c : Nat) : Prop := match c with
  | 0 => ∃ k, d = .int k
  | 1 => d = .string
  | _ => d = .bool
theorem keyTy_sound {t k el : TypeId} {c : Nat} (h : keyTy P t = some (k, el, c)) : P.underlying t = some (.map k el) ∧ ∃ d, P.underlying k = some d ∧ kdOk d c := by
  unfold keyTy at h
  split at h
  · rename_i k' el' hm
    split at h
    · rename_i a hk; cases h; exact ⟨hm, _, hk, a, rfl⟩
    · rename_i hk; cases h; exact ⟨hm, _, hk, rfl⟩
    · rename_i hk; cases h; exact ⟨hm, _, hk, rfl⟩
    · cases h
  · cases h
/-- Are two keys the same? -/
noncomputable def keyEq (c : Nat) (a b : AV) (K : Bool → Bool) : Bool := Nat.rec (motive := fun _ => Bool)
  (asI a fun k n => asI b fun k' n' => andK (Nat.beq (kc k) (kc k')) (K (decide (n = n'))))
  (fun c _ => Nat.rec (motive := fun _ => Bool) (asS a fun l n => asS b fun l' n' => K (eqV.strEqD l n l' n')) (fun _ _ => asB a fun x => asB b fun y => K (Bool.rec (motive := fun _ => Bool) (Bool.not y) y x)) c) c
theorem ba_beq (a b : Array UInt8) : ((ByteArray.mk a) == (ByteArray.mk b)) = (a == b) := rfl
theorem ba_eq {l n l' n' : Nat} : ((ByteArray.mk (bytesOf l n).toArray) == (ByteArray.mk (bytesOf l' n').toArray)) = decide (bytesOf l n = bytesOf l' n') := by
  rw [ba_beq, Bool.eq_iff_iff]
  simp
theorem keyEq_sound {c : Nat} {a b : AV} {K : Bool → Bool} {u v : Value} {d : TypeDesc} (hd : kdOk d c) (hu : rel m a u) (hv : rel m b v) (h : keyEq c a b K = true) : ∃ r, K r = true ∧ Instr.sameNow d u v = some r ∧ (r = true → v = u ∧ ∀ n, Instr.sameBits n u u = true) := by
  match c, hd, h with
  | 0, hd, h =>
    obtain ⟨k0, rfl⟩ := hd
    obtain ⟨k, n, rfl, h2⟩ := asI_sound (v := a) h
    obtain ⟨k', n', rfl, h3⟩ := asI_sound h2
    obtain ⟨h4, h5⟩ := andK_sound h3
    have hk : k = k' := kc_inj h4
    subst hk
    have hu : u = .int k n := hu
    have hv : v = .int k n' := hv
    subst hu hv
    refine ⟨_, h5, ?_, ?_⟩
    · simp only [Instr.sameNow, if_true]
      congr 1
    · intro hr
      have hr := of_decide_eq_true hr
      subst hr
      refine ⟨rfl, fun m => ?_⟩
      cases m <;> simp [Instr.sameBits]
  | 1, hd, h =>
    have hd : d = .string := hd
    subst hd
    obtain ⟨l, n, rfl, h2⟩ := asS_sound (v := a) h
    obtain ⟨l', n', rfl, h3⟩ := asS_sound h2
    rw [strEqD_eq] at h3
    have hu : u = strV (bytesOf l n) := hu
    have hv : v = strV (bytesOf l' n') := hv
    subst hu hv
    refine ⟨_, h3, ?_, ?_⟩
    · unfold strV
      simp only [Instr.sameNow]
      rw [ba_eq]
    · intro hr
      have hr := of_decide_eq_true hr
      rw [hr]
      refine ⟨rfl, fun m => ?_⟩
      unfold strV
      cases m <;> (simp only [Instr.sameBits]; rw [ba_beq]; simp)
  | c + 2, hd, h =>
    have hd : d = .bool := hd
    subst hd
    obtain ⟨x, rfl, h2⟩ := asB_sound (v := a) h
    obtain ⟨y, rfl, h3⟩ := asB_sound h2
    have hu : u = .bool x := hu
    have hv : v = .bool y := hv
    subst hu hv
    refine ⟨_, h3, ?_, ?_⟩
    · cases x <;> cases y <;> rfl
    · intro hr
      cases x <;> cases y <;> first | (cases hr; done) | exact ⟨rfl, fun m => by cases m <;> rfl⟩
/-- The entry of a key. -/
noncomputable def findV (ks : AV) : AV → Nat → AV → Nat → Bool → (Nat → AV → Bool) → Bool := AV.rec (motive := fun _ => AV → Nat → AV → Nat → Bool → (Nat → AV → Bool) → Bool)
  (fun _ _ _ _ _ _ => false) (fun _ _ _ _ _ _ _ => false) (fun _ _ _ _ _ _ _ _ => false) (fun _ _ _ _ _ _ _ _ => false) (fun _ _ _ _ _ _ => false) (fun _ _ _ _ _ _ _ _ => false) (fun _ _ _ _ _ _ => false) (fun _ _ _ _ _ _ => false) (fun _ _ _ _ _ _ _ _ _ _ => false) (fun _ _ _ _ _ _ _ _ _ _ => false) (fun _ _ _ _ _ _ => false) (fun _ _ _ _ _ _ _ => false) (fun _ _ _ _ _ _ _ _ _ => false) (fun _ _ _ _ _ _ => false) (fun _ _ _ _ _ _ => false) (fun _ _ _ _ _ _ _ _ _ => false) (fun _ _ _ _ N _ => N) (fun k _ _ ih vs c key i N K => asCons vs fun v vs => keyEq c key k fun b => Bool.rec (motive := fun _ => Bool) (ih vs c key (Nat.succ i) N K) (K i v) b) (fun _ _ _ _ _ _ _ _ => false) (fun _ _ _ _ _ _ _ _ => false) ks
theorem findV_sound {c : Nat} {key : AV} {kv : Value} {d : TypeDesc} {N : Bool} {K : Nat → AV → Bool} (hd : kdOk d c) (hk : rel m key kv) : ∀ {ks vs : AV} {i : Nat} {kvs : List (Value × Value)}, relL m ks (kvs.map (·.1)) → relL m vs (kvs.map (·.2)) → findV ks vs c key i N K = true →
    (N = true ∧ Instr.findNow d kv (entsV i kvs) i = some none) ∨ (∃ j v av k', kvs[j]? = some (k', v) ∧ rel m av v ∧ K (i + j) av = true ∧ Instr.findNow d kv (entsV i kvs) i = some (some (i + j, v)) ∧ k' = kv ∧ ∀ n, Instr.sameBits n kv kv = true) := by
  intro ks
  induction ks with
  | nil =>
    intro vs i kvs h1 h2 h
    have h1 : kvs.map (·.1) = [] := h1
    have : kvs = [] := by simpa using h1
    subst this
    exact .inl ⟨h, rfl⟩
  | cons a t _ ih =>
    intro vs i kvs h1 h2 h
    obtain ⟨u, us, g1, g2, g3⟩ := h1
    cases kvs with
    | nil => cases g3
    | cons p r =>
      obtain ⟨k0, v0⟩ := p
      simp only [List.map_cons, List.cons.injEq] at g3
      obtain ⟨rfl, rfl⟩ := g3
      obtain ⟨b, vt, rfl, h5⟩ := asCons_sound (v := vs) h
      obtain ⟨v', us', f1, f2, f3⟩ := h2
      simp only [List.map_cons, List.cons.injEq] at f3
      obtain ⟨rfl, rfl⟩ := f3
      obtain ⟨r', h6, h7, h8⟩ := keyEq_sound hd hk g1 h5
      cases r' with
      | true =>
        refine .inr ⟨0, v0, b, k0, rfl, f1, h6, ?_, ?_⟩
        · show (match Instr.sameNow d kv k0 with
            | some true => some (some (i, v0))
            | some false => _
            | none => none) = _
          rw [h7]; rfl
        · exact h8 rfl
      | false =>
        have h6 : findV t vt c key (Nat.succ i) N K = true := h6
        have step : Instr.findNow d kv (entsV i ((k0, v0) :: r)) i = Instr.findNow d kv (entsV (i + 1) r) (i + 1) := by
          show (match Instr.sameNow d kv k0 with
            | some true => some (some (i, v0))
            | some false => Instr.findNow d kv (entsV (i + 1) r) (i + 1)
            | none => none) = _
          rw [h7]
        rw [step]
        rcases ih g2 f2 h6 with g | ⟨j, v, av, k', q1, q2, q3, q4, q5⟩
        · exact .inl g
        · exact .inr ⟨j + 1, v, av, k', by simpa using q1, q2, by rw [show i + (j + 1) = i + 1 + j from by omega]; exact q3, by rw [show i + (j + 1) = i + 1 + j from by omega]; exact q4, q5⟩
  | _ => intro vs i kvs h1 h2 h; exact h1.elim
theorem checkKey_ok {k : TypeId} {d : TypeDesc} {c n : Nat} {emp : Bool} {v : Value} (hk : P.underlying k = some d) (hd : kdOk d c) (w : World) : (Instr.checkKey emp (n + 1) k v).run P w = .ok () w := by
  unfold Instr.checkKey
  simp only [Sem.run_bind, run_underlying' hk, Result.andThen_ok]
  match c, hd with
  | 0, hd => obtain ⟨a, rfl⟩ := hd; rfl
  | 1, hd => cases (hd : d = .string); rfl
  | c + 2, hd => cases (hd : d = .bool); rfl
noncomputable def mpK (H : Hp) (id : Nat) (K : AV → AV → Bool) : Bool := optK (H.t.get id) fun b => Blk.rec (motive := fun _ => (AV → AV → Bool) → Bool) (fun _ _ _ _ => false) (fun _ _ _ _ => false) (fun ks vs K => K ks vs) (fun _ _ _ _ => false) (fun _ _ _ _ _ _ _ _ _ => false) (fun _ _ _ _ _ => false) b K
theorem mpK_sound {id : Nat} {K : AV → AV → Bool} (h : mpK H id K = true) : ∃ ks vs, H.t.get id = some (.mp ks vs) ∧ K ks vs = true := by
  obtain ⟨b, h1, h2⟩ := optK_sound h
  cases b with
  | mp ks vs => exact ⟨ks, vs, h1, h2⟩
  | _ => cases h2
noncomputable def asM (v : AV) (K : Nat → Bool) : Bool := AV.rec (motive := fun _ => (Nat → Bool) → Bool) (fun _ => false) (fun _ _ => false) (fun _ _ _ => false) (fun _ _ _ => false) (fun _ => false) (fun _ _ _ => false) (fun _ => false) (fun _ => false) (fun _ _ _ _ _ => false) (fun _ _ _ _ _ => false) (fun _ => false) (fun a K => K a) (fun _ _ _ _ => false) (fun _ => false) (fun _ => false) (fun _ _ _ _ => false) (fun _ => false) (fun _ _ _ _ _ => false) (fun _ _ _ => false) (fun _ _ _ => false) v K
theorem asM_sound {v : AV} {K : Nat → Bool} (h : asM v K = true) : ∃ i, v = .m i ∧ K i = true := by cases v <;> first | exact ⟨_, rfl, h⟩ | cases h
noncomputable def eMakeMap (r : Option Operand) (H : Hp) (K : HK) : Bool := Option.rec (motive := fun _ => Bool) (newO H (.mp .nil .nil) fun id H => K (.m id) H) (fun _ => false) r
theorem eMakeMap_sound {t : TypeId} {r : Option Operand} (hop : o.op = .makeMap t r) (hi : Inv1 m H) (hs : Mem W0 m H Fr w) (h : eMakeMap r H K = true) : ES P e o W0 Fr m w K := by
  cases r with
  | some x => cases h
  | none =>
    have h : newO H (.mp .nil .nil) (fun id H => K (.m id) H) = true := h
    rw [newO_eq] at h
    obtain ⟨k1, k2, k3, k4⟩ := Mem.newO (B := .mp .nil .nil) hi (hs.alloc (.map #[] 0)) ⟨[], rfl, rfl, rfl⟩
    refine ⟨.map (some w.heap.size), _, .inl ?_, _, _, .m H.next, k1, k2, ⟨w.heap.size, 0, k3, rfl⟩, k4, h⟩
    unfold execOp; rw [hop]
    rfl
/-- A map's row, opened. -/
theorem mp_open {id : Nat} {ks vs : AV} {x : Operand} (hi : Inv1 m H) (he : EnvRel m L E e) (hs : Mem W0 m H Fr w) (hx : opV x L E = .m id) (hg : H.t.get id = some (.mp ks vs)) :
    ∃ (b cap : Nat) (kvs : List (Value × Value)) (R : List (Nat × Blk)), ev e x = .map (some b) ∧ m id = some (b, cap) ∧ relL m ks (kvs.map (·.1)) ∧ relL m vs (kvs.map (·.2)) ∧ (getObj b).run P w = .ok (.map (entsV 0 kvs).toArray kvs.length) w ∧
      Sat W0 (sep (blk b (.map (entsV 0 kvs).toArray kvs.length) :: (R.map (asn m) ++ [Fr]))) w ∧
      (∀ m blk, Ent (sep (asn m (id, blk) :: (R.map (asn m) ++ [Fr]))) (sep (hpA m (Tr.set (some blk) H.t id) ++ [Fr]))) := by
  have hxr := opV_rel he x
  rw [hx] at hxr
  obtain ⟨b', c', r1, r2⟩ := hxr
  obtain ⟨R, b, cap, u, g1, ⟨kvs, g2, g5, rfl⟩, g3, g4⟩ := hs.opnO (hi.1.pos hi.2 r1) hg trivial
  have hb : b' = b := by rw [g1] at r1; cases r1; rfl
  subst hb
  refine ⟨b', cap, kvs, R, r2, g1, g2, g5, ?_, g3, g4⟩
  have := g3.get (i := 0) rfl
  simp [getObj, Sem.run, this]
theorem findKey_now {k : TypeId} {d : TypeDesc} {v : Value} {es : List MapEntry} {r : Option (Nat × Value)} (hk : P.underlying k = some d) (h : Instr.findNow d v es 0 = some r) (w : World) : (Instr.findKey k v es).run P w = .ok r w := by
  unfold Instr.findKey
  simp only [Sem.run_bind, run_underlying' hk, Result.andThen_ok, h, Sem.run_pure]
/-! keys that are structs -/
def aggB (P : Program) (k : TypeId) : Bool := match P.underlying k with | some (.array _ _) | some (.struct _) => true | _ => false
def keyTyA (P : Program) (t : TypeId) : Option (TypeId × TypeId) := match P.underlying t with
  | some (.map k el) => if P.keyTypeAt 9 k && (P.tiled 9 k && aggB P k) then some (k, el) else none
  | _ => none
theorem keyTyA_sound {t k el : TypeId} (h : keyTyA P t = some (k, el)) : P.underlying t = some (.map k el) ∧ WideMaps.KeyLaw P k := by
  unfold keyTyA at h
  split at h
  · rename_i k' el' hm
    split at h
    · rename_i hc
      cases h
      simp only [Bool.and_eq_true] at hc
      exact ⟨hm, deep_law (m := 9) (by decide) hc.1 hc.2.1 hc.2.2⟩
    · cases h
  · cases h
/-- A struct that is a key of that type. -/
def keyOk (P : Program) (kt : TypeId) (l : AV) : Bool := match plL l with
  | some vs => (keyOf P kt (.agg vs.toArray)).isSome
  | none => false
theorem keyOk_sound {kt : TypeId} {l : AV} (h : keyOk P kt l = true) : ∃ vs, plL l = some vs ∧ ∃ x, keyOf P kt (.agg vs.toArray) = some x := by
  unfold keyOk at h
  split at h
  · rename_i vs hv
    exact ⟨vs, hv, Option.isSome_iff_exists.1 h⟩
  · cases h
noncomputable def findA (P : Program) (kt : TypeId) (l : AV) (ks : AV) : AV → Nat → Option (Nat × AV) → Bool → (Nat → AV → Bool) → Bool := AV.rec (motive := fun _ => AV → Nat → Option (Nat × AV) → Bool → (Nat → AV → Bool) → Bool)
  (fun _ _ _ _ _ => false) (fun _ _ _ _ _ _ => false) (fun _ _ _ _ _ _ _ => false) (fun _ _ _ _ _ _ _ => false) (fun _ _ _ _ _ => false) (fun _ _ _ _ _ _ _ => false) (fun _ _ _ _ _ => false) (fun _ _ _ _ _ => false) (fun _ _ _ _ _ _ _ _ _ => false) (fun _ _ _ _ _ _ _ _ _ => false) (fun _ _ _ _ _ => false) (fun _ _ _ _ _ _ => false) (fun _ _ _ _ _ _ _ _ => false) (fun _ _ _ _ _ => false) (fun _ _ _ _ _ => false) (fun _ _ _ _ _ _ _ _ => false) (fun _ _ acc N K => Option.rec (motive := fun _ => Bool) N (fun p => K p.1 p.2) acc) (fun k _ _ ih vs i acc N K => asCons vs fun v vs => asAgg k fun l2 => andK (keyOk P kt l2) (Bool.rec (motive := fun _ => Bool) (ih vs (Nat.succ i) acc N K) (Option.rec (motive := fun _ => Bool) (ih vs (Nat.succ i) (some (i, v)) N K) (fun _ => false) acc) (eqL l l2))) (fun _ _ _ _ _ _ _ => false) (fun _ _ _ _ _ _ _ => false) ks
theorem findA_sound {kt : TypeId} {l : AV} {cs : List Value} {N : Bool} {K : Nat → AV → Bool} (hl : plL l = some cs) : ∀ {ks vs : AV} {i : Nat} {acc : Option (Nat × AV)} {kvs : List (Value × Value)}, relL m ks (kvs.map (·.1)) → relL m vs (kvs.map (·.2)) → findA P kt l ks vs i acc N K = true →
    (∀ kv ∈ kvs, ∃ x, keyOf P kt kv.1 = some x) ∧ ((acc = none ∧ N = true ∧ ∀ kv ∈ kvs, kv.1 ≠ .agg cs.toArray) ∨ (∃ p, acc = some p ∧ K p.1 p.2 = true ∧ ∀ kv ∈ kvs, kv.1 ≠ .agg cs.toArray) ∨
      (acc = none ∧ ∃ j v av, kvs[j]? = some (.agg cs.toArray, v) ∧ rel m av v ∧ K (i + j) av = true ∧ ∀ (j' : Nat) (kv : Value × Value), kvs[j']? = some kv → kv.1 = .agg cs.toArray → j' = j)) := by
  intro ks
  induction ks with
  | nil =>
    intro vs i acc kvs h1 h2 h
    have h1 : kvs.map (·.1) = [] := h1
    have : kvs = [] := by simpa using h1
    subst this
    refine ⟨fun kv hk => (by cases hk), ?_⟩
    cases acc with
    | none => exact .inl ⟨rfl, h, fun kv hk => (by cases hk)⟩
    | some p => exact .inr (.inl ⟨p, rfl, h, fun kv hk => (by cases hk)⟩)
  | cons a t _ ih =>
    intro vs i acc kvs h1 h2 h
    obtain ⟨u, us, g1, g2, g3⟩ := h1
    cases kvs with
    | nil => cases g3
    | cons p r =>
      obtain ⟨k0, v0⟩ := p
      simp only [List.map_cons, List.cons.injEq] at g3
      obtain ⟨rfl, rfl⟩ := g3
      obtain ⟨b, vt, rfl, h5⟩ := asCons_sound (v := vs) h
      obtain ⟨v', us', f1, f2, f3⟩ := h2
      simp only [List.map_cons, List.cons.injEq] at f3
      obtain ⟨rfl, rfl⟩ := f3
      obtain ⟨l', rfl, h6⟩ := asAgg_sound h5
      obtain ⟨h7, h8⟩ := andK_sound h6
      obtain ⟨cs', h9, h10⟩ := keyOk_sound h7
      obtain ⟨us2, q1, rfl⟩ := g1
      have q2 := plL_rel h9 q1
      subst q2
      cases hb : eqL l l' with
      | false =>
        rw [hb] at h8
        have hne : cs ≠ us2 := fun g => by have := (eqL_eq hl h9).2 g; rw [hb] at this; cases this
        have hne' : (Value.agg us2.toArray) ≠ .agg cs.toArray := fun g => hne (by have := congrArg Value.cells g; simpa [Value.cells] using (congrArg Array.toList this).symm)
        have h8 : findA P kt l t vt (Nat.succ i) acc N K = true := h8
        obtain ⟨w1, w2⟩ := ih g2 f2 h8
        refine ⟨fun kv hk => ?_, ?_⟩
        · rcases List.mem_cons.1 hk with rfl | hk
          · exact h10
          · exact w1 kv hk
        · rcases w2 with ⟨a1, a2, a3⟩ | ⟨p, a1, a2, a3⟩ | ⟨a1, j, v, av, a2, a3, a4, a5⟩
          · refine .inl ⟨a1, a2, fun kv hk => ?_⟩
            rcases List.mem_cons.1 hk with rfl | hk
            · exact hne'
            · exact a3 kv hk
          · refine .inr (.inl ⟨p, a1, a2, fun kv hk => ?_⟩)
            rcases List.mem_cons.1 hk with rfl | hk
            · exact hne'
            · exact a3 kv hk
          · refine .inr (.inr ⟨a1, j + 1, v, av, by simpa using a2, a3, by rw [show i + (j + 1) = i + 1 + j from by omega]; exact a4, fun j' kv hj' hk => ?_⟩)
            cases j' with
            | zero => simp only [List.getElem?_cons_zero, Option.some.injEq] at hj'; subst hj'; exact absurd hk hne'
            | succ j' => rw [a5 j' kv (by simpa using hj') hk]
      | true =>
        rw [hb] at h8
        have heq : cs = us2 := (eqL_eq hl h9).1 hb
        subst heq
        cases acc with
        | some p => cases h8
        | none =>
          have h8 : findA P kt l t vt (Nat.succ i) (some (i, b)) N K = true := h8
          obtain ⟨w1, w2⟩ := ih g2 f2 h8
          refine ⟨fun kv hk => ?_, ?_⟩
          · rcases List.mem_cons.1 hk with rfl | hk
            · exact h10
            · exact w1 kv hk
          · rcases w2 with ⟨a1, _⟩ | ⟨p, a1, a2, a3⟩ | ⟨a1, _⟩
            · cases a1
            · cases a1
              refine .inr (.inr ⟨rfl, 0, v0, b, rfl, f1, a2, fun j' kv hj' hk => ?_⟩)
              cases j' with
              | zero => rfl
              | succ j' => exact absurd hk (a3 kv (List.mem_of_getElem? (by simpa using hj')))
            · cases a1
  | _ => intro vs i acc kvs h1 h2 h; exact h1.elim
/-- The entry of a key, of whatever kind. -/
noncomputable def fnd (P : Program) (t : TypeId) (ks vs key : AV) (N : Bool) (K : Nat → AV → Bool) : Bool := Option.rec (motive := fun _ => Bool)
  (optK (keyTyA P t) fun q => asAgg key fun l => andK (keyOk P q.1 l) (findA P q.1 l ks vs 0 none N K)) (fun q => findV ks vs q.2.2 key 0 N K) (keyTy P t)
theorem fnd_sound {t : TypeId} {ks vs key : AV} {N : Bool} {K : Nat → AV → Bool} {kv : Value} {kvs : List (Value × Value)} (hk : rel m key kv) (h1 : relL m ks (kvs.map (·.1))) (h2 : relL m vs (kvs.map (·.2))) (h : fnd P t ks vs key N K = true) :
    ∃ kt el, P.underlying t = some (.map kt el) ∧ (∀ em w, (Instr.checkKey em 10000 kt kv).run P w = .ok () w) ∧ ((N = true ∧ ∀ w, (Instr.findKey kt kv (entsV 0 kvs)).run P w = .ok none w) ∨
      ∃ j v av, kvs[j]? = some (kv, v) ∧ rel m av v ∧ K j av = true ∧ (∀ w, (Instr.findKey kt kv (entsV 0 kvs)).run P w = .ok (some (j, v)) w) ∧ ∀ w, (Instr.keyThatStays kv kv).run P w = .ok kv w) := by
  unfold fnd at h
  cases hq : keyTy P t with
  | some q =>
    rw [hq] at h
    obtain ⟨kt, el, c⟩ := q
    obtain ⟨hm, d, hkt, hd⟩ := keyTy_sound hq
    refine ⟨kt, el, hm, fun em w => checkKey_ok hkt hd w, ?_⟩
    rcases findV_sound hd hk h1 h2 h with ⟨g1, g2⟩ | ⟨j, v, av, k', g1, g2, g3, g4, g5, g6⟩
    · exact .inl ⟨g1, fun w => findKey_now hkt g2 w⟩
    · rw [Nat.zero_add] at g3 g4
      subst g5
      refine .inr ⟨j, v, av, g1, g2, g3, fun w => findKey_now hkt g4 w, fun w => ?_⟩
      unfold Instr.keyThatStays
      simp only [g6, if_true, Sem.run_pure]
  | none =>
    rw [hq] at h
    obtain ⟨⟨kt, el⟩, h3, h4⟩ := optK_sound (o := keyTyA P t) h
    obtain ⟨hm, hl⟩ := keyTyA_sound h3
    obtain ⟨l, rfl, h5⟩ := asAgg_sound h4
    obtain ⟨h6, h7⟩ := andK_sound h5
    obtain ⟨cs, h8, x, h9⟩ := keyOk_sound h6
    obtain ⟨us, q1, rfl⟩ := hk
    have q2 := plL_rel h8 q1
    subst q2
    obtain ⟨w1, w2⟩ := findA_sound h8 h1 h2 h7
    have hall : ∀ e ∈ entsV 0 kvs, ∃ l, keyOf P kt e.key = some l := by
      intro e he
      obtain ⟨j, hj⟩ := List.getElem?_of_mem he
      rw [entsV_get] at hj
      obtain ⟨kv, hkv, rfl⟩ := Option.map_eq_some_iff.1 hj
      exact w1 kv (List.mem_of_getElem? hkv)
    have hmem : ∀ kv ∈ kvs, ∃ e ∈ entsV 0 kvs, e.key = kv.1 := fun kv hkv => by
      obtain ⟨j, hj⟩ := List.getElem?_of_mem hkv
      have := entsV_get 0 kvs j
      rw [hj] at this
      exact ⟨_, List.mem_of_getElem? this, rfl⟩
    refine ⟨kt, el, hm, fun em w => hl.check w em h9, ?_⟩
    rcases w2 with ⟨_, a2, a3⟩ | ⟨p, a1, _⟩ | ⟨_, j, v, av, a2, a3, a4, a5⟩
    · refine .inl ⟨a2, fun w => ?_⟩
      rcases hl.find w h9 (entsV 0 kvs) hall with ⟨b1, _⟩ | ⟨j, e, _, b2, b3⟩
      · exact b1
      · rw [entsV_get] at b2
        obtain ⟨kv, hkv, rfl⟩ := Option.map_eq_some_iff.1 b2
        exact absurd b3 (a3 kv (List.mem_of_getElem? hkv))
    · cases a1
    · refine .inr ⟨j, v, av, a2, a3, by rw [Nat.zero_add] at a4; exact a4, fun w => ?_, fun w => hl.stays w h9⟩
      rcases hl.find w h9 (entsV 0 kvs) hall with ⟨_, b2⟩ | ⟨j', e, b1, b2, b3⟩
      · obtain ⟨e, he, hek⟩ := hmem _ (List.mem_of_getElem? a2)
        exact absurd hek (b2 e he)
      · rw [entsV_get] at b2
        obtain ⟨kv, hkv, rfl⟩ := Option.map_eq_some_iff.1 b2
        have := a5 j' kv hkv b3
        subst this
        rw [a2] at hkv
        cases hkv
        exact b1
def mapEl (P : Program) (t : TypeId) : Option TypeId := match P.underlying t with
  | some (.map _ el) => some el
  | _ => none
theorem mapEl_sound {t kt el el' : TypeId} (h : mapEl P t = some el') (hm : P.underlying t = some (.map kt el)) : el = el' := by
  unfold mapEl at h; rw [hm] at h; cases h; rfl
def zeroV (P : Program) (t : TypeId) : Option Value := (P.info? t).bind (·.zero)
theorem zeroV_sound {t : TypeId} {v : Value} (h : zeroV P t = some v) (w : World) : (zeroValue t).run P w = .ok v w := by
  unfold zeroV at h
  cases hi : P.info? t with
  | none => rw [hi] at h; cases h
  | some i => rw [hi] at h; exact run_zeroIs ⟨i, hi, h⟩ w
noncomputable def lLookup (t : TypeId) (x y : Operand) (ok : Bool) (P : Program) (L E : En) (H : Hp) (K : AV → Bool) : Bool := optK (mapEl P t) fun el => optK (zeroV P el) fun zv => asM (opV x L E) fun id => mpK H id fun ks vs =>
  fnd P t ks vs (opV y L E) (Bool.rec (motive := fun _ => Bool) (K (absV zv)) (K (.tup (.cons (absV zv) (.cons (.b false) .nil)))) ok) fun _ v => Bool.rec (motive := fun _ => Bool) (forceK v K) (K (.tup (.cons v (.cons (.b true) .nil)))) ok
theorem lLookup_sound {t : TypeId} {ok : Bool} {K : AV → Bool} (hop : o.op = .lookup t x y ok) (hi : Inv1 m H) (he : EnvRel m L E e) (hs : Mem W0 m H Fr w) (h : lLookup t x y ok P L E H K = true) : LS P e o m w K := by
  obtain ⟨el, h1, h2⟩ := optK_sound h
  obtain ⟨zv, h3, h4⟩ := optK_sound h2
  obtain ⟨id, h5, h6⟩ := asM_sound h4
  obtain ⟨ks, vs, h7, h8⟩ := mpK_sound h6
  obtain ⟨b, cap, kvs, R, r1, r2, r3, r4, r5, _, _⟩ := mp_open (P := P) hi he hs h5 h7
  have hy := opV_rel he y
  obtain ⟨kt, el', hm, hck, hf⟩ := fnd_sound hy r3 r4 h8
  have hel := mapEl_sound h1 hm
  subst hel
  have key : ∀ r, (Instr.findKey kt (ev e y) (entsV 0 kvs)).run P w = .ok r w → (execOp (ev e) o).run P w = .ok (.value (if ok then .tuple #[(r.map (·.2)).getD zv, .bool r.isSome] else (r.map (·.2)).getD zv)) w := by
    intro r hr
    unfold execOp; rw [hop]; simp only [r1]
    unfold Instr.lookup
    simp only [Sem.run_bind, run_underlying' hm, Result.andThen_ok, r5, Sem.run_pure, hck, List.toList_toArray, hr]
    cases r with
    | none => simp only [Sem.run_bind, zeroV_sound h3 w, Result.andThen_ok, Sem.run_pure]; cases ok <;> rfl
    | some p => simp only [Sem.run_pure, Result.andThen_ok]; cases ok <;> rfl
  rcases hf with ⟨g1, g2⟩ | ⟨j, v, av, g1, g2, g3, g4, _⟩
  · cases ok with
    | false => exact ⟨_, _, key _ (g2 w), absV_rel m zv, g1⟩
    | true => exact ⟨.tup (.cons (absV zv) (.cons (.b false) .nil)), .tuple #[zv, .bool false], key _ (g2 w), (⟨[_, _], ⟨_, _, absV_rel m zv, ⟨_, _, rfl, rfl, rfl⟩, rfl⟩, rfl⟩ : rel m (.tup (.cons (absV zv) (.cons (.b false) .nil))) _), g1⟩
  · cases ok with
    | false => rw [forceK_eq] at g3; exact ⟨_, _, key _ (g4 w), g2, g3⟩
    | true => exact ⟨.tup (.cons av (.cons (.b true) .nil)), .tuple #[v, .bool true], key _ (g4 w), (⟨[_, _], ⟨_, _, g2, ⟨_, _, rfl, rfl, rfl⟩, rfl⟩, rfl⟩ : rel m (.tup (.cons av (.cons (.b true) .nil))) _), g3⟩
/-! lists of values -/
noncomputable def pushL (l x : AV) (K : AV → Bool) : Bool := AV.rec (motive := fun _ => AV → (AV → Bool) → Bool) (fun _ _ => false) (fun _ _ _ => false) (fun _ _ _ _ => false) (fun _ _ _ _ => false) (fun _ _ => false) (fun _ _ _ _ => false) (fun _ _ => false) (fun _ _ => false) (fun _ _ _ _ _ _ => false) (fun _ _ _ _ _ _ => false) (fun _ _ => false) (fun _ _ _ => false) (fun _ _ _ _ _ => false) (fun _ _ => false) (fun _ _ => false) (fun _ _ _ _ _ => false) (fun x K => K (.cons x .nil)) (fun a _ _ ih x K => ih x fun r => K (.cons a r)) (fun _ _ _ _ => false) (fun _ _ _ _ => false) l x K
theorem pushL_sound {x : AV} {u : Value} (hx : rel m x u) : ∀ {l : AV} {us : List Value} {K : AV → Bool}, relL m l us → pushL l x K = true → ∃ r, relL m r (us ++ [u]) ∧ K r = true := by
  intro l
  induction l with
  | nil => intro us K h1 h; cases (h1 : us = []); exact ⟨.cons x .nil, ⟨u, [], hx, rfl, rfl⟩, h⟩
  | cons a t _ ih =>
    intro us K h1 h
    obtain ⟨v, vs, g1, g2, rfl⟩ := h1
    obtain ⟨r, k1, k2⟩ := ih g2 (show pushL t x (fun r => K (.cons a r)) = true from h)
    exact ⟨.cons a r, ⟨v, _, g1, k1, rfl⟩, k2⟩
  | _ => intro us K h1 h; exact h1.elim
noncomputable def setL (j : Nat) (x : AV) : AV → (AV → Bool) → Bool := Nat.rec (motive := fun _ => AV → (AV → Bool) → Bool) (fun l K => asCons l fun _ t => K (.cons x t)) (fun _ ih l K => asCons l fun a t => ih t fun r => K (.cons a r)) j
theorem setL_sound {x : AV} {u : Value} (hx : rel m x u) : ∀ {j : Nat} {l : AV} {us : List Value} {K : AV → Bool}, relL m l us → setL j x l K = true → ∃ r, relL m r (us.set j u) ∧ K r = true
  | 0, l, us, K, h1, h => by
    obtain ⟨a, t, rfl, h2⟩ := asCons_sound (v := l) h
    obtain ⟨v, vs, g1, g2, rfl⟩ := h1
    exact ⟨.cons x t, ⟨u, vs, hx, g2, rfl⟩, h2⟩
  | j + 1, l, us, K, h1, h => by
    obtain ⟨a, t, rfl, h2⟩ := asCons_sound (v := l) h
    obtain ⟨v, vs, g1, g2, rfl⟩ := h1
    obtain ⟨r, k1, k2⟩ := setL_sound hx g2 (show setL j x t (fun r => K (.cons a r)) = true from h2)
    exact ⟨.cons a r, ⟨v, _, g1, k1, rfl⟩, k2⟩
noncomputable def eMapUpdate (t : TypeId) (x y z : Operand) (P : Program) (L E : En) (H : Hp) (K : HK) : Bool := asM (opV x L E) fun id => mpK H id fun ks vs =>
  fnd P t ks vs (opV y L E) (forceK (opV y L E) fun k => forceK (opV z L E) fun v => pushL ks k fun ks => pushL vs v fun vs => turnO H id (.mp ks vs) fun H => K (.tup .nil) H) fun j _ => forceK (opV z L E) fun v => setL j v vs fun vs => turnO H id (.mp ks vs) fun H => K (.tup .nil) H
theorem set_same {α β : Type} (f : α → β) {l : List α} {j : Nat} {a b : α} (h : l[j]? = some a) (hf : f b = f a) : (l.set j b).map f = l.map f := by
  apply List.ext_getElem?
  intro n
  rw [List.getElem?_map, List.getElem?_map, List.getElem?_set]
  split
  · rename_i g
    subst g
    split
    · rw [h]; simp [hf]
    · rename_i g2
      rw [List.getElem?_eq_none (by omega)]
      try rfl
  · rfl
theorem eMapUpdate_sound {t : TypeId} (hop : o.op = .mapUpdate t x y z) (hi : Inv1 m H) (he : EnvRel m L E e) (hs : Mem W0 m H Fr w) (h : eMapUpdate t x y z P L E H K = true) : ES P e o W0 Fr m w K := by
  obtain ⟨id, h5, h6⟩ := asM_sound h
  obtain ⟨ks, vs, h7, h8⟩ := mpK_sound h6
  obtain ⟨b, cap, kvs, R, r1, r2, r3, r4, r5, r6, r7⟩ := mp_open (P := P) hi he hs h5 h7
  have hy := opV_rel he y
  have hz := opV_rel he z
  have fin : ∀ kvs' ks' vs', relL m ks' (kvs'.map (·.1)) → relL m vs' (kvs'.map (·.2)) → K (.tup .nil) ⟨H.next, Tr.set (some (.mp ks' vs')) H.t id⟩ = true →
      (∀ w', (setObj b (.map (entsV 0 kvs').toArray kvs'.length)).run P w = .ok () w' → (execOp (ev e) o).run P w = .ok .skip w') → ES P e o W0 Fr m w K := by
    intro kvs' ks' vs' q1 q2 q3 q4
    obtain ⟨w', a1, a2⟩ := run_setObj (P := P) (m := m) (B := .mp ks vs) (u' := .map (entsV 0 kvs').toArray kvs'.length) ⟨kvs, r3, r4, rfl⟩ r6
    refine ⟨undef, w', .inr ⟨q4 w' a1, rfl⟩, m, _, .tup .nil, Map.le_refl m, ⟨hi.1.tree _, hi.2⟩, ⟨[], rfl, rfl⟩, ?_, q3⟩
    exact (a2.mono (Ent.cons (Ent.asnO (B := .mp ks' vs') r2 ⟨kvs', q1, q2, rfl⟩) (Ent.refl _))).mono (r7 m _)
  obtain ⟨kt, el, hm, hck, hf⟩ := fnd_sound hy r3 r4 h8
  rcases hf with ⟨g1, g2⟩ | ⟨j, v, av, g1, g2, g3, g4, g6⟩
  · rw [forceK_eq, forceK_eq] at g1
    obtain ⟨ks', f1, f2⟩ := pushL_sound hy r3 g1
    obtain ⟨vs', f3, f4⟩ := pushL_sound hz r4 f2
    rw [turnO_eq] at f4
    refine fin (kvs ++ [(ev e y, ev e z)]) ks' vs' (by simpa using f1) (by simpa using f3) f4 fun w' ha => ?_
    unfold execOp; rw [hop]; simp only [r1]
    unfold Instr.mapUpdate
    have hpush : (entsV 0 kvs).toArray.push { key := ev e y, val := ev e z, born := kvs.length } = (entsV 0 (kvs ++ [(ev e y, ev e z)])).toArray := by rw [entsV_push]; simp
    have hlen : kvs.length + 1 = (kvs ++ [(ev e y, ev e z)]).length := by simp
    simp only [Sem.run_bind, run_underlying' hm, Result.andThen_ok, r5, hck, List.toList_toArray, g2 w, hpush, hlen, ha, Sem.run_pure]
  · rw [forceK_eq] at g3
    obtain ⟨vs', f3, f4⟩ := setL_sound hz r4 g3
    rw [turnO_eq] at f4
    have hj : (entsV 0 kvs).toArray[j]? = some { key := ev e y, val := v, born := j } := by
      rw [List.getElem?_toArray, entsV_get, g1]; simp
    refine fin (kvs.set j (ev e y, ev e z)) ks vs' (by rw [set_same (·.1) (b := (ev e y, ev e z)) g1 rfl]; exact r3) (by rw [List.map_set]; exact f3) f4 fun w' ha => ?_
    unfold execOp; rw [hop]; simp only [r1]
    unfold Instr.mapUpdate
    have hset : (entsV 0 kvs).toArray.modify j (fun x => { x with key := ev e y, val := ev e z }) = (entsV 0 (kvs.set j (ev e y, ev e z))).toArray := by
      apply Array.ext'
      apply List.ext_getElem?
      intro n
      rw [Array.getElem?_toList, Array.getElem?_modify, entsV_set, List.getElem?_modify, List.getElem?_toArray]
      by_cases hnj : j = n <;> simp [hnj]
    have hlen : kvs.length = (kvs.set j (ev e y, ev e z)).length := by simp
    simp only [Sem.run_bind, run_underlying' hm, Result.andThen_ok, r5, hck, List.toList_toArray, g4 w, hj, Option.map_some, Option.getD_some, g6, hset]
    rw [hlen, ha]
    rfl
noncomputable def eMapEntry (t : TypeId) (x y : Operand) (P : Program) (L E : En) (H : Hp) (K : HK) : Bool := optK (mapEl P t) fun el => optK (zeroV P el) fun zv => asM (opV x L E) fun id => mpK H id fun ks vs =>
  fnd P t ks vs (opV y L E) (forceK (opV y L E) fun k => natK (lenL ks) fun n => pushL ks k fun ks => pushL vs (absV zv) fun vs => turnO H id (.mp ks vs) fun H => K (.tup (.cons (absV zv) (.cons (.i .i64 (Int.ofNat n)) .nil))) H) fun j v => forceK v fun v => natK j fun j => turnO H id (.mp ks vs) fun H => K (.tup (.cons v (.cons (.i .i64 (Int.ofNat j)) .nil))) H
theorem map_fin {id b cap : Nat} {ks vs : AV} {kvs : List (Value × Value)} {R : List (Nat × Blk)} (hi : Inv1 m H) (r2 : m id = some (b, cap)) (r3 : relL m ks (kvs.map (·.1))) (r4 : relL m vs (kvs.map (·.2)))
    (r6 : Sat W0 (sep (blk b (.map (entsV 0 kvs).toArray kvs.length) :: (R.map (asn m) ++ [Fr]))) w) (r7 : ∀ m blk, Ent (sep (asn m (id, blk) :: (R.map (asn m) ++ [Fr]))) (sep (hpA m (Tr.set (some blk) H.t id) ++ [Fr]))) :
    ∀ (kvs' : List (Value × Value)) (ks' vs' av : AV) (v : Value), relL m ks' (kvs'.map (·.1)) → relL m vs' (kvs'.map (·.2)) → rel m av v → K av ⟨H.next, Tr.set (some (.mp ks' vs')) H.t id⟩ = true →
      (∀ w', (setObj b (.map (entsV 0 kvs').toArray kvs'.length)).run P w = .ok () w' → (execOp (ev e) o).run P w = .ok (.value v) w' ∨ ((execOp (ev e) o).run P w = .ok .skip w' ∧ v = undef)) → ES P e o W0 Fr m w K := by
  intro kvs' ks' vs' av v q1 q2 q3 q4 q5
  obtain ⟨w', a1, a2⟩ := run_setObj (P := P) (m := m) (B := .mp ks vs) (u' := .map (entsV 0 kvs').toArray kvs'.length) ⟨kvs, r3, r4, rfl⟩ r6
  refine ⟨v, w', q5 w' a1, m, _, av, Map.le_refl m, ⟨hi.1.tree _, hi.2⟩, q3, ?_, q4⟩
  exact (a2.mono (Ent.cons (Ent.asnO (B := .mp ks' vs') r2 ⟨kvs', q1, q2, rfl⟩) (Ent.refl _))).mono (r7 m _)
theorem eMapEntry_sound {t : TypeId} (hop : o.op = .mapEntry t x y) (hi : Inv1 m H) (he : EnvRel m L E e) (hs : Mem W0 m H Fr w) (h : eMapEntry t x y P L E H K = true) : ES P e o W0 Fr m w K := by
  obtain ⟨el, h1, h2⟩ := optK_sound h
  obtain ⟨zv, h3, h4⟩ := optK_sound h2
  obtain ⟨id, h5, h6⟩ := asM_sound h4
  obtain ⟨ks, vs, h7, h8⟩ := mpK_sound h6
  obtain ⟨b, cap, kvs, R, r1, r2, r3, r4, r5, r6, r7⟩ := mp_open (P := P) hi he hs h5 h7
  have hy := opV_rel he y
  obtain ⟨kt, el', hm, hck, hf⟩ := fnd_sound hy r3 r4 h8
  have hel := mapEl_sound h1 hm
  subst hel
  rcases hf with ⟨g1, g2⟩ | ⟨j, v, av, g1, g2, g3, g4, g6⟩
  · rw [forceK_eq, natK_eq] at g1
    obtain ⟨ks', f1, f2⟩ := pushL_sound hy r3 g1
    obtain ⟨vs', f3, f4⟩ := pushL_sound (absV_rel m zv) r4 f2
    rw [turnO_eq] at f4
    have hlen : lenL ks = kvs.length := by rw [lenL_rel r3]; simp
    rw [hlen] at f4
    refine map_fin hi r2 r3 r4 r6 r7 (kvs ++ [(ev e y, zv)]) ks' vs' (.tup (.cons (absV zv) (.cons (.i .i64 (Int.ofNat kvs.length)) .nil))) (.tuple #[zv, goInt (kvs.length : Nat)]) (by simpa using f1) (by simpa using f3) ⟨[_, _], ⟨_, _, absV_rel m zv, ⟨_, _, rfl, rfl, rfl⟩, rfl⟩, rfl⟩ f4 fun w' ha => .inl ?_
    unfold execOp; rw [hop]; simp only [r1]
    unfold Instr.mapEntry
    have hpush : (entsV 0 kvs).toArray.push { key := ev e y, val := zv, born := kvs.length } = (entsV 0 (kvs ++ [(ev e y, zv)])).toArray := by rw [entsV_push]; simp
    have hl1 : kvs.length + 1 = (kvs ++ [(ev e y, zv)]).length := by simp
    simp only [Sem.run_bind, run_underlying' hm, Result.andThen_ok, r5, hck, List.toList_toArray, g2 w, zeroV_sound h3 w, hpush, hl1, ha, Sem.run_pure]
  · rw [forceK_eq, natK_eq, turnO_eq] at g3
    have hj : (entsV 0 kvs).toArray[j]? = some { key := ev e y, val := v, born := j } := by
      rw [List.getElem?_toArray, entsV_get, g1]; simp
    refine map_fin hi r2 r3 r4 r6 r7 kvs ks vs (.tup (.cons av (.cons (.i .i64 (Int.ofNat j)) .nil))) (.tuple #[v, goInt (j : Nat)]) r3 r4 ⟨[_, _], ⟨_, _, g2, ⟨_, _, rfl, rfl, rfl⟩, rfl⟩, rfl⟩ g3 fun w' ha => .inl ?_
    unfold execOp; rw [hop]; simp only [r1]
    unfold Instr.mapEntry
    have hset : (entsV 0 kvs).toArray.modify j (fun x => { x with key := ev e y }) = (entsV 0 kvs).toArray := by
      apply Array.ext'
      apply List.ext_getElem?
      intro n
      rw [Array.getElem?_toList, Array.getElem?_modify, Array.getElem?_toList]
      by_cases hnj : j = n
      · subst hnj; rw [if_pos rfl, hj]; rfl
      · rw [if_neg hnj]
    simp only [Sem.run_bind, run_underlying' hm, Result.andThen_ok, r5, hck, List.toList_toArray, g4 w, hj, Option.map_some, Option.getD_some, g6, hset, ha, Sem.run_pure]
theorem findV_born : ∀ (i : Nat) (kvs : List (Value × Value)) (j : Nat), j < kvs.length → (entsV i kvs).findIdx? (fun e => (e.born : Int) == ((i + j : Nat) : Int)) = some j
  | i, (k, v) :: r, 0, _ => by simp [entsV, List.findIdx?_cons]
  | i, (k, v) :: r, j + 1, h => by
    rw [entsV, List.findIdx?_cons, if_neg (by simp; omega), show i + (j + 1) = i + 1 + j from by omega, findV_born (i + 1) r j (by simpa using h)]
    rfl
noncomputable def eEntryStore (x y z : Operand) (L E : En) (H : Hp) (K : HK) : Bool := asM (opV x L E) fun id => mpK H id fun ks vs => asI (opV y L E) fun _ n => Int.rec (motive := fun _ => Bool) (fun j => andK (Nat.blt j (lenL ks)) (forceK (opV z L E) fun v => setL j v vs fun vs => turnO H id (.mp ks vs) fun H => K (.tup .nil) H)) (fun _ => false) n
theorem eEntryStore_sound {t : TypeId} (hop : o.op = .entryStore t x y z) (hi : Inv1 m H) (he : EnvRel m L E e) (hs : Mem W0 m H Fr w) (h : eEntryStore x y z L E H K = true) : ES P e o W0 Fr m w K := by
  obtain ⟨id, h5, h6⟩ := asM_sound h
  obtain ⟨ks, vs, h7, h8⟩ := mpK_sound h6
  obtain ⟨b, cap, kvs, R, r1, r2, r3, r4, r5, r6, r7⟩ := mp_open (P := P) hi he hs h5 h7
  obtain ⟨k, n, g1, g2⟩ := asI_sound h8
  have hy := opI he g1
  have hz := opV_rel he z
  cases n with
  | negSucc n => cases g2
  | ofNat j =>
    obtain ⟨g3, g4⟩ := andK_sound (c := Nat.blt j (lenL ks)) g2
    have g3 := blt_lt g3
    rw [lenL_rel r3, List.length_map] at g3
    rw [forceK_eq] at g4
    obtain ⟨vs', f3, f4⟩ := setL_sound hz r4 g4
    rw [turnO_eq] at f4
    have hj : kvs[j]? = some (kvs[j].1, kvs[j].2) := List.getElem?_eq_getElem g3
    refine map_fin hi r2 r3 r4 r6 r7 (kvs.set j (kvs[j].1, ev e z)) ks vs' (.tup .nil) undef (by rw [set_same (·.1) (b := (kvs[j].1, ev e z)) hj rfl]; exact r3) (by rw [List.map_set]; exact f3) ⟨[], rfl, rfl⟩ f4 fun w' ha => .inr ⟨?_, rfl⟩
    unfold execOp; rw [hop]; simp only [r1, hy]
    unfold Instr.entryStore
    have hf := findV_born 0 kvs j g3
    rw [Nat.zero_add] at hf
    have hset : (entsV 0 kvs).toArray.modify j (fun x => { x with val := ev e z }) = (entsV 0 (kvs.set j (kvs[j].1, ev e z))).toArray := by
      apply Array.ext'
      apply List.ext_getElem?
      intro n
      rw [Array.getElem?_toList, Array.getElem?_modify, entsV_set, List.getElem?_modify, List.getElem?_toArray]
      by_cases hnj : j = n
      · subst hnj
        rw [entsV_get, hj]
        simp
      · simp [hnj]
    have hlen : kvs.length = (kvs.set j (kvs[j].1, ev e z)).length := by simp
    simp only [Sem.run_bind, r5, Result.andThen_ok, asInt, asIntOf, Sem.run_pure, List.findIdx?_toArray, Int.ofNat_eq_natCast, hf, hset]
    rw [hlen, ha]
    rfl
/-! ### What reads -/
noncomputable def loadOp (op : Op) : Program → En → En → Hp → (AV → Bool) → Bool := Op.rec (motive := fun _ => (Program) → (En) → (En) → (Hp) → (AV → Bool) → Bool) (fun _ _ _ _ _ _ => false) (fun _ _ _ _ _ _ => false) (fun _ _ _ _ _ _ _ _ => false) (fun _ _ _ _ _ _ => false) (fun _ _ _ _ _ _ _ => false) (fun _ _ _ _ _ _ _ => false) (fun _ _ _ _ _ _ _ _ => false) (fun _ _ _ _ _ _ _ _ _ => false) lLoad (fun _ _ _ _ _ _ _ _ => false) (fun _ _ _ _ _ _ => false) (fun _ _ _ _ _ _ => false) (fun _ _ _ _ _ _ => false) (fun _ _ _ _ _ _ _ _ _ _ => false) (fun _ _ _ _ _ _ _ _ => false) lConv (fun _ _ _ _ _ _ _ => false) (fun _ _ _ _ _ _ _ => false) (fun _ _ _ _ _ _ _ _ => false) (fun _ _ _ _ _ _ _ => false) (fun _ _ _ _ _ _ _ => false) (fun _ _ _ _ _ _ _ _ => false) (fun _ _ _ _ _ _ _ _ _ _ => false) (fun _ _ _ _ _ _ _ _ => false) (fun _ _ _ _ _ _ _ _ => false) (fun _ _ _ _ _ _ _ _ => false) (fun _ _ _ _ _ _ _ _ => false) lLookup (fun _ _ _ _ _ _ _ _ _ => false) (fun _ _ _ _ _ _ _ _ => false) (fun _ _ _ _ _ _ _ _ _ => false) (fun _ _ _ _ _ _ _ => false) (fun _ _ _ _ _ _ _ => false) (fun _ _ _ _ _ _ => false) (fun _ _ _ _ _ _ _ _ _ => false) (fun _ _ _ _ _ _ _ => false) (fun _ _ _ _ _ _ => false) (fun _ _ _ _ _ _ => false) (fun _ _ _ _ _ _ => false) (fun _ _ _ _ _ _ => false) (fun _ _ _ _ _ _ _ => false) (fun _ _ _ _ _ _ _ _ => false) (fun _ _ _ _ _ _ _ => false) op
theorem loadOp_sound {K : AV → Bool} (hi : Inv1 m H) (he : EnvRel m L E e) (hs : Mem W0 m H Fr w) (h : loadOp o.op P L E H K = true) : LS P e o m w K := by
  generalize hop : o.op = op at h
  cases op with
  | load => exact lLoad_sound hop hi he hs h
  | convert => exact lConv_sound hop hi he hs h
  | lookup => exact lLookup_sound hop hi he hs h
  | _ => cases h
end
end Go.Evl
