/-
  The evaluator: pointers as numbers, texts made of bytes in place, maps of at most one entry gone through. It proves nothing of the program by itself.
-/
import Derived.Test.YtbbgajjonodlfaaGreatGEv11b
import Derived.Lib.Builder
import Derived.Lib.UnsafeStr
set_option linter.unusedVariables false
set_option linter.unusedSimpArgs false
namespace Go.Evl
open Go Go.Sl
section
variable {P : Program} {e : Env} {o : Oper} {m : Map} {L E : En} {W0 w : World} {H : Hp} {Fr : Assn}
theorem row_shape {b T : Nat} {cs : List Value} {L : List Assn} (s : Sat W0 (sep (row b T cs :: L)) w) : w.shape? b = some (T, cs.length) := by
  obtain ⟨lo, hi, h1, _⟩ := s.getRow (i := 0) rfl
  simp [World.shape?, h1]
def unsB (P : Program) (t : TypeId) : Bool := match P.underlying t with | some .unsafePointer => true | _ => false
theorem unsB_sound {t : TypeId} (h : unsB P t = true) : P.underlying t = some .unsafePointer := by
  unfold unsB at h
  split at h
  · assumption
  · cases h
def ptB (P : Program) (t : TypeId) : Option TypeId := match P.underlying t with | some (.pointer u) => some u | _ => none
theorem ptB_sound {t u : TypeId} (h : ptB P t = some u) : P.underlying t = some (.pointer u) := by
  unfold ptB at h
  split at h
  · cases h; assumption
  · cases h
def okTo (P : Program) (u : TypeId) : Bool := match P.info? u with | some j => !(Nat.beq j.size 0) | none => false
theorem okTo_sound {u : TypeId} (h : okTo P u = true) : ∃ j, P.info? u = some j ∧ j.size ≠ 0 := by
  unfold okTo at h
  split at h
  · rename_i j hj
    exact ⟨j, hj, fun g => by rw [g] at h; cases h⟩
  · cases h
def okFrom (P : Program) (T u size off : Nat) : Bool := (P.info? u).isSome && liesAt P P.depth T (size / P.cellsOf T) off u 1
/-- A pointer to unsafe.Pointer, or back. -/
noncomputable def lConvP (s d : TypeId) (x : Operand) (P : Program) (L E : En) (H : Hp) (K : AV → Bool) : Bool := asP (opV x L E) fun id off => blkK H id fun T z c => andK (Nat.beq z 0) (andK (Nat.blt off c.size)
  (Bool.rec (motive := fun _ => Bool) (andK (unsB P s) (optK (ptB P d) fun u => andK (okFrom P T u c.size off) (K (.p id off)))) (optK (ptB P s) fun u => andK (okTo P u) (K (.p id off))) (unsB P d)))
theorem lConvP_sound {s d : TypeId} {x : Operand} {K : AV → Bool} (hop : o.op = .convert s d x) (hi : Inv1 m H) (he : EnvRel m L E e) (hs : Mem W0 m H Fr w) (h : lConvP s d x P L E H K = true) : LS P e o m w K := by
  obtain ⟨id, off, h1, h2⟩ := asP_sound h
  obtain ⟨T, z, c, h3, h4⟩ := blkK_sound h2
  obtain ⟨h5, h6⟩ := andK_sound h4
  obtain ⟨h7, h8⟩ := andK_sound h6
  have hz := Nat.eq_of_beq_eq_true h5
  subst hz
  obtain ⟨b', c', r1, r2⟩ := (opR he h1 : rel m (.p id off) _)
  have r2 : ev e x = .pointer (some ⟨b', off, none⟩) := r2
  obtain ⟨R, b, cap, vs, rest, g1, g2, g3, g4, _, _⟩ := hs.opn (hi.1.pos hi.2 r1) h3
  have hb : b' = b := by rw [g1] at r1; cases r1; rfl
  subst hb
  have hr : rest = [] := g3.1 rfl
  subst hr
  rw [List.append_nil] at g4
  have hsh := row_shape g4
  have hlen : vs.length = c.size := g2.len
  have hoff : off < vs.length := by rw [hlen]; exact blt_lt h7
  have fin : ∀ (hK : K (.p id off) = true) (hc : (convert s d (.pointer (some ⟨b', off, none⟩))).run P w = .ok (.pointer (some ⟨b', off, none⟩)) w), LS P e o m w K := fun hK hc => by
    refine ⟨.p id off, .pointer (some ⟨b', off, none⟩), ?_, ⟨b', c', r1, rfl⟩, hK⟩
    unfold execOp; rw [hop]; simp only [r2, Sem.run_bind, hc, Result.andThen_ok, Sem.run_pure]
  cases hu : unsB P d with
  | true =>
    rw [hu] at h8
    obtain ⟨u, k1, k2⟩ := optK_sound (o := ptB P s) h8
    obtain ⟨k3, k4⟩ := andK_sound k2
    obtain ⟨j, k5, k6⟩ := okTo_sound k3
    exact fin k4 (Go.Lib.run_to_unsafe w ⟨b', off, none⟩ (ptB_sound k1) (unsB_sound hu) k5 k6 hsh hoff)
  | false =>
    rw [hu] at h8
    obtain ⟨k0, h8⟩ := andK_sound (c := unsB P s) h8
    obtain ⟨u, k1, k2⟩ := optK_sound (o := ptB P d) h8
    obtain ⟨k3, k4⟩ := andK_sound k2
    unfold okFrom at k3
    simp only [Bool.and_eq_true] at k3
    obtain ⟨j, k5⟩ := Option.isSome_iff_exists.1 k3.1
    exact fin k4 (Go.Lib.run_from_unsafe w ⟨b', off, none⟩ (unsB_sound k0) (ptB_sound k1) k5 hsh (by rw [hlen]; exact k3.2))
/-- unsafe.SliceData. -/
noncomputable def sdK (v : AV) (K : AV → Bool) : Bool := AV.rec (motive := fun _ => (AV → Bool) → Bool) (fun _ => false) (fun _ _ => false) (fun _ _ _ => false) (fun _ _ _ => false) (fun _ => false) (fun _ _ _ => false) (fun K => K .pn) (fun _ => false)
  (fun id off n c K => andK (Nat.blt 0 c) (K (.p id off))) (fun id off n k K => andK (Nat.blt 0 n) (K (.p id off))) (fun _ => false) (fun _ _ => false) (fun _ _ _ _ => false) (fun _ => false) (fun _ => false) (fun _ _ _ _ => false) (fun _ => false) (fun _ _ _ _ _ => false) (fun _ _ _ => false) (fun _ _ _ => false) v K
noncomputable def cSliceData (c : Call) (P : Program) (L E : En) (K : AV → Bool) : Bool := args1 c fun x _ => sdK (opV x L E) K
theorem cSliceData_sound {c : Call} {K : AV → Bool} (hop : o.op = .call c) (hc : c.callee = .builtin .unsafeSliceData) (he : EnvRel m L E e) (h : cSliceData c P L E K = true) : LS P e o m w K := by
  obtain ⟨x, t, a1, a2, h1⟩ := args1_sound h
  obtain ⟨callee, args, ats⟩ := c
  have hc : callee = .builtin .unsafeSliceData := hc
  have a1 : args = #[x] := a1
  have a2 : ats = #[t] := a2
  subst hc a1 a2
  have fin : ∀ {av : AV} {a : Option Addr}, K av = true → rel m av (.pointer a) → (Builtin.unsafeSliceData_ #[t] o.type #[ev e x]).run P w = .ok (.pointer a) w → LS P e o m w K := fun hK hr hrun => by
    refine ⟨_, _, run_builtin hop ?_, hr, hK⟩
    rw [map1]
    show ((do pure (Next.value (← Builtin.unsafeSliceData_ #[t] o.type #[ev e x])) : Sem Next)).run P w = _
    simp only [Sem.run_bind, hrun, Result.andThen_ok, Sem.run_pure]
  unfold sdK at h1
  generalize hv : opV x L E = v at h1
  have hr := opR he hv
  cases v with
  | sn => exact fin h1 rfl (by rw [show ev e x = _ from hr]; rfl)
  | sl id off n c =>
    obtain ⟨b, c', r1, r2, _⟩ := hr
    obtain ⟨h2, h3⟩ := andK_sound h1
    refine fin h3 (av := .p id off) (a := some ⟨b, off, none⟩) ⟨b, c', r1, rfl⟩ ?_
    rw [show ev e x = .slice (some ⟨b, off, none⟩) n c from r2]
    exact Go.Lib.run_unsafeSliceData_row w _ _ _ _ _ (by have := blt_lt h2; omega)
  | sv id off n k =>
    obtain ⟨b, c', r1, r0, r2⟩ := hr
    obtain ⟨h2, h3⟩ := andK_sound h1
    refine fin h3 (av := .p id off) (a := some ⟨b, off, none⟩) ⟨b, c', r1, rfl⟩ ?_
    rw [show ev e x = .slice (some ⟨b, off, none⟩) n (c' - k) from r2]
    exact Go.Lib.run_unsafeSliceData_row w _ _ _ _ _ (by have := blt_lt h2; omega)
  | _ => cases h1
end
section
variable {P : Program} {e : Env} {o : Oper} {m : Map} {L E : En} {W0 w : World} {H : Hp} {Fr : Assn} {K : HK}
/-- A block is given up. -/
noncomputable def dropK1 (H : Hp) (id : Nat) (K : Hp → Bool) : Bool := setK none H.t id fun t => K ⟨H.next, t⟩
theorem dropK1_eq (H : Hp) (id : Nat) (K : Hp → Bool) : dropK1 H id K = K ⟨H.next, Tr.set none H.t id⟩ := by unfold dropK1; rw [setK_eq]
def cell1 (P : Program) (t : TypeId) (T : Nat) : Bool := match P.underlying t with | some (.pointer u) => Nat.beq u T && Nat.beq (P.cellsOf u) 1 | _ => false
theorem cell1_sound {t : TypeId} {T : Nat} (h : cell1 P t T = true) : P.underlying t = some (.pointer T) ∧ P.cellsOf T = 1 := by
  unfold cell1 at h
  split at h
  · simp only [Bool.and_eq_true] at h
    have h1 := Nat.eq_of_beq_eq_true h.1
    subst h1
    exact ⟨by assumption, Nat.eq_of_beq_eq_true h.2⟩
  · cases h
/-- unsafe.String; its bytes are given up. -/
noncomputable def eUnsafeString1 (c : Call) (P : Program) (L E : En) (H : Hp) (K : HK) : Bool := args22 c fun x y t _ => asP (opV x L E) fun id off => andK (Nat.beq off 0) (asN (opV y L E) fun n => natK n fun n => andK (Nat.blt 0 n) (andK (Nat.ble n 281474976710656)
  (blkK H id fun T z c => andK (cell1 P t T) (bytesK c 0 n fun num => natK num fun num => dropK1 H id fun H => K (.s n num) H))))
theorem eUnsafeString1_sound {c : Call} (hop : o.op = .call c) (hc : c.callee = .builtin .unsafeString) (hi : Inv1 m H) (he : EnvRel m L E e) (hs : Mem W0 m H Fr w) (h : eUnsafeString1 c P L E H K = true) : ES P e o W0 Fr m w K := by
  obtain ⟨x, y, t, t', a1, a2, h1⟩ := args22_sound h
  obtain ⟨callee, args, ats⟩ := c
  have hc : callee = .builtin .unsafeString := hc
  have a1 : args = #[x, y] := a1
  have a2 : ats = #[t, t'] := a2
  subst hc a1 a2
  obtain ⟨id, off, h2, h3⟩ := asP_sound h1
  obtain ⟨h4, h5⟩ := andK_sound h3
  have h4 := Nat.eq_of_beq_eq_true h4
  subst h4
  obtain ⟨k, n, h6, h7⟩ := asN_sound h5
  rw [natK_eq] at h7
  obtain ⟨h8, h9⟩ := andK_sound h7
  obtain ⟨h10, h11⟩ := andK_sound h9
  obtain ⟨T, z, c, h12, h13⟩ := blkK_sound h11
  obtain ⟨h14, h15⟩ := andK_sound h13
  obtain ⟨b', c', r1, r2⟩ := (opR he h2 : rel m (.p id 0) _)
  obtain ⟨R, b, cap, vs, rest, g1, g2, g3, g4, _, g6⟩ := hs.opn (hi.1.pos hi.2 r1) h12
  have hb : b' = b := by rw [g1] at r1; cases r1; rfl
  subst hb
  obtain ⟨h16, num, h17, h18⟩ := bytesK_sound h15 g2
  rw [natK_eq, dropK1_eq] at h17
  have hn : 0 < n := blt_lt h8
  have hle : n ≤ vs.length := by rcases h16 with g | g <;> omega
  have hyv : ev e y = .int k (n : Int) := (opR he h6 : rel m (.i k (Int.ofNat n)) _)
  have hsh := row_shape g4
  obtain ⟨c1, c2⟩ := cell1_sound h14
  have hl : (bytesOf n num).length = n := bytesOf_length n num
  have hcell : ∀ (j : Nat) (u : UInt8), (bytesOf n num)[j]? = some u → w.cell? ((⟨b', 0, none⟩ : Addr).add j) = some (.int .u8 u.toNat) := fun j u hj => by
    have hj' : j < n := by
      rcases Nat.lt_or_ge j n with g | g
      · exact g
      · rw [List.getElem?_eq_none (by omega)] at hj; cases hj
    have e1 : (vs ++ rest)[j]? = some (u8V u) := by
      rw [List.getElem?_append_left (by omega)]
      have := congrArg (fun l => l[j]?) h18
      simp only [List.drop_zero, List.getElem?_take, hj', if_true, List.getElem?_map, hj, Option.map_some] at this
      exact this
    have := g4.cell (i := 0) rfl e1
    have e2 : (⟨b', 0, none⟩ : Addr).add j = ⟨b', j, none⟩ := by
      unfold Addr.add
      by_cases g : j = 0
      · subst g; simp
      · simp [g]
    rw [e2]
    exact this
  have hrun := Go.Lib.run_unsafeString_row (P := P) w t t' o.type T c1 c2 b' (vs ++ rest).length hsh (bytesOf n num) (by intro g; rw [g] at hl; simp at hl; omega) (by rw [hl, List.length_append]; omega) (by rw [hl]; have := Nat.le_of_ble_eq_true h10; omega) hcell
  rw [hl] at hrun
  have hk64 : (Builtin.unsafeString_ #[t, t'] o.type #[.pointer (some ⟨b', 0, none⟩), .int k (n : Int)]).run P w = .ok (.string ⟨(bytesOf n num).toArray⟩) (w.freeze ⟨b', 0, none⟩ n) := hrun
  have hdrop : Sat W0 (sep (R.map (asn m) ++ [Fr])) (w.freeze ⟨b', 0, none⟩ n) := by
    obtain ⟨k0, hx, hh⟩ := g4
    obtain ⟨hw, q1, q2, dj, rfl, ha, hrest⟩ := hh
    have hfr : (w.freeze ⟨b', 0, none⟩ n).heap.size = w.heap.size ∧ (∀ k, k ≠ b' → (w.freeze ⟨b', 0, none⟩ n).heap[k]? = w.heap[k]?) ∧ Kept w (w.freeze ⟨b', 0, none⟩ n) := by
      unfold World.freeze
      split
      · exact ⟨rfl, fun _ _ => rfl, Kept.refl _⟩
      · exact ⟨by simp, fun k hk => by simp only [Array.getElem?_modify]; rw [if_neg (Ne.symm hk)], ⟨rfl, rfl, rfl, by simp⟩⟩
    refine ⟨k0.trans hfr.2.2, q2, fun k u hu => ?_, hrest⟩
    have hkb : k ≠ b' := by
      intro g
      subst g
      obtain ⟨lo, hi2, hb0, _⟩ := ha
      rcases dj k with e1 | e1
      · rw [hb0] at e1; cases e1
      · rw [hu] at e1; cases e1
    rw [hfr.2.1 k hkb]
    exact hw k u (Frag.le_join_right dj k u hu)
  refine ⟨.string ⟨(bytesOf n num).toArray⟩, w.freeze ⟨b', 0, none⟩ n, .inl (run_builtin hop ?_), m, ⟨H.next, Tr.set none H.t id⟩, .s n num, Map.le_refl m, ⟨hi.1.tree _, hi.2⟩, rfl, hdrop.mono (g6 m), h17⟩
  rw [map2, r2, hyv]
  show ((do pure (Next.value (← Builtin.unsafeString_ #[t, t'] o.type #[.pointer (some ⟨b', 0, none⟩), .int k (n : Int)])) : Sem Next)).run P w = _
  simp only [Sem.run_bind, hk64, Result.andThen_ok, Sem.run_pure]
/-- unsafe.String of no bytes at no address. -/
noncomputable def eUnsafeString0 (c : Call) (L E : En) (H : Hp) (K : HK) : Bool := args22 c fun x y _ _ => isPn (opV x L E) (asN (opV y L E) fun n => andK (Nat.beq n 0) (K (.s 0 0) H))
theorem eUnsafeString0_sound {c : Call} (hop : o.op = .call c) (hc : c.callee = .builtin .unsafeString) (hi : Inv1 m H) (he : EnvRel m L E e) (hs : Mem W0 m H Fr w) (h : eUnsafeString0 c L E H K = true) : ES P e o W0 Fr m w K := by
  obtain ⟨x, y, t, t', a1, a2, h1⟩ := args22_sound h
  obtain ⟨callee, args, ats⟩ := c
  have hc : callee = .builtin .unsafeString := hc
  have a1 : args = #[x, y] := a1
  have a2 : ats = #[t, t'] := a2
  subst hc a1 a2
  obtain ⟨h2, h3⟩ := isPn_sound h1
  obtain ⟨k, n, h6, h7⟩ := asN_sound h3
  obtain ⟨h8, h9⟩ := andK_sound h7
  have h8 := Nat.eq_of_beq_eq_true h8
  subst h8
  have hxv : ev e x = .pointer none := (opR he h2 : rel m .pn _)
  have hyv : ev e y = .int k (0 : Int) := (opR he h6 : rel m (.i k (Int.ofNat 0)) _)
  have hrun := Go.Lib.run_unsafeString_none (P := P) (w := w) t t' o.type none
  have hk64 : (Builtin.unsafeString_ #[t, t'] o.type #[.pointer none, .int k (0 : Int)]).run P w = .ok (.string .empty) w := hrun
  refine ⟨.string .empty, w, .inl (run_builtin hop ?_), m, H, .s 0 0, Map.le_refl m, hi, rfl, hs, h9⟩
  rw [map2, hxv, hyv]
  show ((do pure (Next.value (← Builtin.unsafeString_ #[t, t'] o.type #[.pointer none, .int k (0 : Int)])) : Sem Next)).run P w = _
  simp only [Sem.run_bind, hk64, Result.andThen_ok, Sem.run_pure]
noncomputable def eUnsafeString (c : Call) (P : Program) (L E : En) (H : Hp) (K : HK) : Bool := Bool.rec (motive := fun _ => Bool) (eUnsafeString1 c P L E H K) (eUnsafeString0 c L E H K) (args22 c fun x _ _ _ => isPn (opV x L E) true)
theorem eUnsafeString_sound {c : Call} (hop : o.op = .call c) (hc : c.callee = .builtin .unsafeString) (hi : Inv1 m H) (he : EnvRel m L E e) (hs : Mem W0 m H Fr w) (h : eUnsafeString c P L E H K = true) : ES P e o W0 Fr m w K := by
  unfold eUnsafeString at h
  cases hb : args22 c fun x _ _ _ => isPn (opV x L E) true with
  | false => rw [hb] at h; exact eUnsafeString1_sound hop hc hi he hs h
  | true => rw [hb] at h; exact eUnsafeString0_sound hop hc hi he hs h
end
section
variable {P : Program} {e : Env} {o : Oper} {m : Map} {L E : En} {W0 w : World} {H : Hp} {Fr : Assn} {K : HK}
set_option maxHeartbeats 4000000 in
theorem run_append_zeros {t t' ty el : TypeId} {kd : IntKind} {inf : TypeInfo} {zv : Value} {n : Nat} (ht : P.underlying t = some (.slice el)) (hd : P.underlying t' = some (.int kd)) (hi : P.info? el = some inf) (hz : inf.zero = some zv)
    (hs : inf.size ≠ 0) (hn : 0 < n) (h63 : n ≤ 9223372036854775807) (hb : n * inf.bytes ≤ 281474976710656) (h48 : Builtin.nextslicecap n 0 * inf.bytes ≤ 281474976710656) :
    (Builtin.append_ #[t, t'] ty #[.slice none 0 0, .int .i64 (n : Int)]).run P w = .ok (.slice (some ⟨w.heap.size, 0, none⟩) n (grownCap w n 0 el)) (w.drew.alloc (.cells (Builtin.zeroCells zv.cells n ++ Builtin.zeroCells zv.cells (grownCap w n 0 el - n)) el)) := by
  have hw : IntKind.i64.wrap (n : Int) = n := by rw [IntKind.wrap_i64]; omega
  have h1 : ¬ ((n : Int) < 0) := by omega
  have h2 : ¬ ((281474976710656 : Int) < (n : Int) * (inf.bytes : Int)) := by
    have h := Int.ofNat_le.2 hb
    rw [Int.natCast_mul] at h
    exact Int.not_lt.2 h
  have h3 : ¬ (9223372036854775807 < (n : Int)) := by omega
  have h4 : ¬ (281474976710656 < Builtin.nextslicecap n 0 * inf.bytes) := by omega
  have h5 : ¬ n = 0 := by omega
  have h6 : ¬ n * inf.size = 0 := Nat.mul_ne_zero h5 hs
  simp [Builtin.append_, run_underlying' ht, run_underlying' hd, sizeOf, typeInfo, zeroValue, hi, hz, asInt, asIntOf, hw, h1, h2, h3, h4, h5, h6, hs, Question.forced, newRow, grownCap, Builtin.firstCells]
def isIntB (P : Program) (t : TypeId) : Bool := match P.underlying t with | some (.int _) => true | _ => false
theorem isIntB_sound {t : TypeId} (h : isIntB P t = true) : ∃ k, P.underlying t = some (.int k) := by
  unfold isIntB at h
  split at h
  · exact ⟨_, by assumption⟩
  · cases h
/-- Noughts behind a nil slice. -/
noncomputable def eAppendZ (c : Call) (P : Program) (L E : En) (H : Hp) (K : HK) : Bool := args22 c fun s x t t' => isSn (opV s L E) (optK (slElB P t) fun el => optK (tyB P el) fun q => andK (Nat.beq q.2.2.length q.1) (andK (Nat.blt 0 q.1) (andK (isIntB P t')
  (asN (opV x L E) fun n => natK n fun n => andK (Nat.blt 0 n) (andK (Nat.ble (Nat.mul n q.2.1) 281474976710656) (bigOk n q.2.1 (bodyK (repBody n q.2.2) fun bd => newK H el q.1 bd fun id H => K (.sv id 0 n 0) H)))))))
theorem eAppendZ_sound {c : Call} (hop : o.op = .call c) (hc : c.callee = .builtin .append) (hi : Inv1 m H) (he : EnvRel m L E e) (hs : Mem W0 m H Fr w) (h : eAppendZ c P L E H K = true) : ES P e o W0 Fr m w K := by
  obtain ⟨s, x, t, t', a1, a2, h1⟩ := args22_sound h
  obtain ⟨callee, args, ats⟩ := c
  have hc : callee = .builtin .append := hc
  have a1 : args = #[s, x] := a1
  have a2 : ats = #[t, t'] := a2
  subst hc a1 a2
  obtain ⟨hsn, h2⟩ := isSn_sound h1
  obtain ⟨el, h3, h4⟩ := optK_sound h2
  obtain ⟨⟨sz, bytes, z⟩, h5, h6⟩ := optK_sound h4
  obtain ⟨h7, h8⟩ := andK_sound h6
  obtain ⟨h9, h10⟩ := andK_sound h8
  obtain ⟨h11, h12⟩ := andK_sound h10
  obtain ⟨k, n, h13, h14⟩ := asN_sound h12
  rw [natK_eq] at h14
  obtain ⟨h15, h16⟩ := andK_sound h14
  obtain ⟨h17, h18⟩ := andK_sound h16
  obtain ⟨h19, h20⟩ := bigOk_sound h18
  rw [bodyK_eq, newK_eq] at h20
  have hzl : z.length = sz := Nat.eq_of_beq_eq_true h7
  have hsz : 0 < sz := blt_lt h9
  obtain ⟨kd, hkd⟩ := isIntB_sound h11
  obtain ⟨inf, zv, i1, i2, i3, i4, i5⟩ := tyB_sound h5
  have hzv : zv.cells = z.toArray := by rw [← i5]
  have hn : 0 < n := blt_lt h15
  have hb : n * bytes ≤ 281474976710656 := Nat.le_of_ble_eq_true h17
  have hsv : ev e s = .slice none 0 0 := (opR he hsn : rel m .sn _)
  have hxv : ev e x = .int k (n : Int) := (opR he h13 : rel m (.i k (Int.ofNat n)) _)
  have hgc := grownCap_bound w n 0 el h19.1
  have hr := run_append_zeros (P := P) (w := w) (t := t) (t' := t') (ty := o.type) (slElB_sound h3) hkd i1 i4 (by omega) hn h19.1 (by rw [i3]; exact hb) (by rw [i3]; exact growslice_fits (by omega) h19.2)
  have hrow : Builtin.zeroCells zv.cells n ++ Builtin.zeroCells zv.cells (grownCap w n 0 el - n) = (zeros n z ++ zeros (grownCap w n 0 el - n) z).toArray := by
    rw [hzv]
    apply Array.ext'
    simp [zeroCells_eq]
  rw [hrow] at hr
  have s1 := hs.drew.newRow el (zeros n z ++ zeros (grownCap w n 0 el - n) z)
  obtain ⟨k1, k2, k3, k4⟩ := Mem.new (cap := grownCap w n 0 el) hi s1 (repBody_rel m n z) (restOk_vec (k := n) (by rw [List.length_append, zeros_length, zeros_length, hzl, ← Nat.add_mul]; congr 1; omega) hgc.2 (by rw [zeros_length, hzl]) hsz)
  refine ⟨_, _, .inl (run_builtin hop ?_), _, _, .sv H.next 0 n 0, k1, k2, ⟨w.heap.size, _, k3, by omega, rfl⟩, k4, h20⟩
  rw [map2, hsv, hxv]
  show ((do pure (Next.value (← Builtin.append_ #[t, t'] o.type #[.slice none 0 0, .int k (n : Int)])) : Sem Next)).run P w = _
  have hr' : (Builtin.append_ #[t, t'] o.type #[.slice none 0 0, .int k (n : Int)]).run P w = _ := hr
  simp only [Sem.run_bind, hr', Result.andThen_ok, Sem.run_pure]
  rfl
end
section
variable {P : Program} {e : Env} {o : Oper} {m : Map} {L E : En} {W0 w : World} {H : Hp} {Fr : Assn} {K : HK}
/-- clear, of a slice. -/
noncomputable def clrK (v : AV) (P : Program) (t : TypeId) (H : Hp) (K : HK) : Bool := AV.rec (motive := fun _ => Bool) false (fun _ => false) (fun _ _ => false) (fun _ _ => false) false (fun _ _ => false) (K (.tup .nil) H) false
  (fun id off n _ => Bool.rec (motive := fun _ => Bool) (K (.tup .nil) H) (optK (slElB P t) fun el => optK (tyB P el) fun q => andK (Nat.beq q.2.2.length q.1) (blkK H id fun T z cb => bodyK (repBody n q.2.2) fun p => layB cb off p fun c2 => turnK H id T z c2 fun H => K (.tup .nil) H)) (Nat.blt 0 n))
  (fun _ _ _ _ => false) false (fun _ => false) (fun _ _ _ => false) false false (fun _ _ _ => false) false (fun _ _ _ _ => false) (fun _ _ => false) (fun _ _ => false) v
noncomputable def eClear (c : Call) (P : Program) (L E : En) (H : Hp) (K : HK) : Bool := args1 c fun x t => andK (Option.rec (motive := fun _ => Bool) false (fun _ => true) (slElB P t)) (clrK (opV x L E) P t H K)
theorem eClear_sound {c : Call} (hop : o.op = .call c) (hc : c.callee = .builtin .clear) (hi : Inv1 m H) (he : EnvRel m L E e) (hs : Mem W0 m H Fr w) (h : eClear c P L E H K = true) : ES P e o W0 Fr m w K := by
  obtain ⟨x, t, a1, a2, h1⟩ := args1_sound h
  obtain ⟨callee, args, ats⟩ := c
  have hc : callee = .builtin .clear := hc
  have a1 : args = #[x] := a1
  have a2 : ats = #[t] := a2
  subst hc a1 a2
  obtain ⟨h0, h1⟩ := andK_sound h1
  obtain ⟨el0, hel0⟩ : ∃ el, slElB P t = some el := by
    cases hb : slElB P t with
    | none => rw [hb] at h0; cases h0
    | some el => exact ⟨el, rfl⟩
  have hel0 := slElB_sound hel0
  have fin : ∀ {w' : World}, (Builtin.clear_ #[t] o.type #[ev e x]).run P w = .ok (.tuple #[]) w' → (execOp (ev e) o).run P w = .ok (.value (.tuple #[])) w' := fun hr => by
    refine run_builtin hop ?_
    rw [map1]
    show ((do pure (Next.value (← Builtin.clear_ #[t] o.type #[ev e x])) : Sem Next)).run P w = _
    simp only [Sem.run_bind, hr, Result.andThen_ok, Sem.run_pure]
  unfold clrK at h1
  generalize hv : opV x L E = v at h1
  have hr := opR he hv
  cases v with
  | sn =>
    refine ⟨_, w, .inl (fin ?_), m, H, .tup .nil, Map.le_refl m, hi, ⟨[], rfl, rfl⟩, hs, h1⟩
    rw [show ev e x = .slice none 0 0 from hr]
    simp [Builtin.clear_, run_underlying' hel0]
  | sl id off n cap =>
    obtain ⟨b0, c0, r1, r2, _⟩ := hr
    have r2 : ev e x = .slice (some ⟨b0, off, none⟩) n cap := r2
    have h1 : Bool.rec (motive := fun _ => Bool) (K (.tup .nil) H) (optK (slElB P t) fun el => optK (tyB P el) fun q => andK (Nat.beq q.2.2.length q.1) (blkK H id fun T z cb => bodyK (repBody n q.2.2) fun p => layB cb off p fun c2 => turnK H id T z c2 fun H => K (.tup .nil) H)) (Nat.blt 0 n) = true := h1
    cases hn : Nat.blt 0 n with
    | false =>
      rw [hn] at h1
      have hn0 : n = 0 := by
        rcases Nat.eq_zero_or_pos n with g | g
        · exact g
        · rw [show Nat.blt 0 n = true from by simpa using g] at hn; cases hn
      subst hn0
      refine ⟨_, w, .inl (fin ?_), m, H, .tup .nil, Map.le_refl m, hi, ⟨[], rfl, rfl⟩, hs, h1⟩
      rw [r2]
      simp [Builtin.clear_, run_underlying' hel0]
    | true =>
      rw [hn] at h1
      have hn0 := blt_lt hn
      obtain ⟨el, h2, h3⟩ := optK_sound (o := slElB P t) h1
      obtain ⟨⟨sz, bytes, z⟩, h4, h5⟩ := optK_sound h3
      obtain ⟨h6, h7⟩ := andK_sound h5
      obtain ⟨T, z', cb, u1, u2⟩ := blkK_sound h7
      rw [bodyK_eq] at u2
      obtain ⟨R, b, cap2, vs, rest, g1, g2, g3, g4, g5, _⟩ := hs.opn (hi.1.pos hi.2 r1) u1
      have hb : b0 = b := by rw [g1] at r1; cases r1; rfl
      subst hb
      obtain ⟨g6, c', g7, g8, g9⟩ := layB_sound (m := m) (dst := cb) (src := repBody n z) (off := off) u2
      rw [turnK_eq] at g7
      have hy := repBody_rel m n z
      have g10 := g9 vs (zeros n z) g2 hy
      rw [← hy.len, ← g2.len] at g6
      obtain ⟨w', s1, s2⟩ := g4.storeCells (P := P) (i := 0) (off := off) (k := 0) (vs := zeros n z) rfl (by rw [Nat.add_zero, List.length_append]; omega) g10.1
      obtain ⟨inf, zv, i1, i2, i3, i4, i5⟩ := tyB_sound h4
      have hzv : (Builtin.zeroCells zv.cells n).toList = zeros n z := by
        rw [show zv.cells = z.toArray from by rw [← i5]]
        exact zeroCells_eq z n
      have hrun : (Builtin.clear_ #[t] o.type #[ev e x]).run P w = .ok (.tuple #[]) w' := by
        obtain ⟨n', rfl⟩ : ∃ n', n = n' + 1 := ⟨n - 1, by omega⟩
        rw [r2]
        simp [Builtin.clear_, run_underlying' (slElB_sound h2), zeroValue, typeInfo, i1, i4, hzv, s1]
      have s3 : Sat W0 (sep (row b0 T (lay (vs ++ rest) off (zeros n z)) :: (R.map (asn m) ++ [Fr]))) w' := by simpa [setN] using s2
      rw [lay_append (by omega)] at s3
      refine ⟨_, w', .inl (fin hrun), m, _, .tup .nil, Map.le_refl m, ⟨hi.1.tree _, hi.2⟩, ⟨[], rfl, rfl⟩, ?_, g7⟩
      exact (s3.mono (Ent.cons (Ent.asn g1 g10.2 (g3.same (by rw [lay_length]))) (Ent.refl _))).mono (g5 m _)
  | _ => cases h1
end
section
variable {P : Program} {e : Env} {o : Oper} {m : Map} {L E : En} {W0 w : World} {H : Hp} {Fr : Assn} {K : HK}
/-! ### Maps of at most one entry, gone through -/
def mapB (P : Program) (t : TypeId) : Bool := match P.underlying t with | some (.map _ _) => true | _ => false
theorem mapB_sound {t : TypeId} (h : mapB P t = true) : ∃ k el, P.underlying t = some (.map k el) := by
  unfold mapB at h
  split at h
  · exact ⟨_, _, by assumption⟩
  · cases h
noncomputable def asMp (v : AV) (K : Nat → Bool) : Bool := AV.rec (motive := fun _ => (Nat → Bool) → Bool) (fun _ => false) (fun _ _ => false) (fun _ _ _ => false) (fun _ _ _ => false) (fun _ => false) (fun _ _ _ => false) (fun _ => false) (fun _ => false) (fun _ _ _ _ _ => false) (fun _ _ _ _ _ => false) (fun _ => false) (fun i K => K i) (fun _ _ _ _ => false) (fun _ => false) (fun _ => false) (fun _ _ _ _ => false) (fun _ => false) (fun _ _ _ _ _ => false) (fun _ _ _ => false) (fun _ _ _ => false) v K
theorem asMp_sound {v : AV} {K : Nat → Bool} (h : asMp v K = true) : ∃ i, v = .m i ∧ K i = true := by cases v <;> first | exact ⟨_, rfl, h⟩ | cases h
noncomputable def len01 (l : AV) (K : Nat → Bool) : Bool := AV.rec (motive := fun _ => (Nat → Bool) → Bool) (fun _ => false) (fun _ _ => false) (fun _ _ _ => false) (fun _ _ _ => false) (fun _ => false) (fun _ _ _ => false) (fun _ => false) (fun _ => false) (fun _ _ _ _ _ => false) (fun _ _ _ _ _ => false) (fun _ => false) (fun _ _ => false) (fun _ _ _ _ => false) (fun _ => false) (fun _ => false) (fun _ _ _ _ => false) (fun K => K 0) (fun _ t _ _ K => asNil t (K 1)) (fun _ _ _ => false) (fun _ _ _ => false) l K
theorem len01_sound {l : AV} {K : Nat → Bool} {vs : List Value} (h : len01 l K = true) (hr : relL m l vs) : (l = .nil ∧ vs = [] ∧ K 0 = true) ∨ ∃ v u, l = .cons v .nil ∧ vs = [u] ∧ rel m v u ∧ K 1 = true := by
  cases l with
  | nil => exact .inl ⟨rfl, hr, h⟩
  | cons v t =>
    obtain ⟨rfl, h2⟩ := asNil_sound (v := t) h
    obtain ⟨u, us, r1, r2, rfl⟩ := hr
    have r2 : us = [] := r2
    subst r2
    exact .inr ⟨v, u, rfl, rfl, r1, h2⟩
  | _ => exact hr.elim
noncomputable def eRangeM (t : TypeId) (x : Operand) (P : Program) (L E : En) (H : Hp) (K : HK) : Bool := andK (mapB P t) (asMp (opV x L E) fun id => mpK H id fun ks _ => len01 ks fun n => newO H (.mi id 0 n) fun i H => K (.p i 0) H)
theorem map_get {id b c : Nat} {ks vs : AV} (hi : Inv1 m H) (hs : Mem W0 m H Fr w) (hb : m id = some (b, c)) (hg : H.t.get id = some (.mp ks vs)) :
    ∃ kvs : List (Value × Value), relL m ks (kvs.map (·.1)) ∧ relL m vs (kvs.map (·.2)) ∧ (getObj b).run P w = .ok (.map (entsV 0 kvs).toArray kvs.length) w := by
  obtain ⟨R, b', cap, u, g1, ⟨kvs, g2, g5, rfl⟩, g3, g4⟩ := hs.opnO (hi.1.pos hi.2 hb) hg trivial
  have hbb : b' = b := by rw [g1] at hb; cases hb; rfl
  subst hbb
  refine ⟨kvs, g2, g5, ?_⟩
  have := g3.get (i := 0) rfl
  simp [getObj, Sem.run, this]
theorem eRangeM_sound {t : TypeId} {x : Operand} (hop : o.op = .range t x) (hi : Inv1 m H) (he : EnvRel m L E e) (hs : Mem W0 m H Fr w) (h : eRangeM t x P L E H K = true) : ES P e o W0 Fr m w K := by
  obtain ⟨h1, h2⟩ := andK_sound h
  obtain ⟨kt, el, ht⟩ := mapB_sound h1
  obtain ⟨id, h3, h4⟩ := asMp_sound h2
  obtain ⟨ks, vs, h5, h6⟩ := mpK_sound h4
  obtain ⟨b, c, r1, r2⟩ := (opR he h3 : rel m (.m id) _)
  obtain ⟨kvs, g1, g2, g3⟩ := map_get (P := P) hi hs r1 h5
  have key : newO H (.mi id 0 kvs.length) (fun i H => K (.p i 0) H) = true := by
    rcases len01_sound h6 g1 with ⟨_, e1, h7⟩ | ⟨v, u, _, e1, _, h7⟩
    · have : kvs = [] := List.map_eq_nil_iff.1 e1
      subst this; exact h7
    · have : kvs.length = 1 := by have := congrArg List.length e1; simpa using this
      rw [this]; exact h7
  rw [newO_eq] at key
  obtain ⟨k1, k2, k3, k4⟩ := Mem.newO (B := .mi id 0 kvs.length) hi (hs.alloc (.mapIter (some b) kvs.length #[] kvs.length)) ⟨b, c, r1, rfl⟩
  refine ⟨_, _, .inl ?_, _, _, .p H.next 0, k1, k2, ⟨w.heap.size, 0, k3, rfl⟩, k4, key⟩
  unfold execOp; rw [hop]; simp only [show ev e x = .map (some b) from r2]
  unfold Instr.range
  simp only [Sem.run_bind, run_underlying' ht, Result.andThen_ok, g3, Sem.run_pure]
  rfl
theorem left0 (k v : Value) : (entsV 0 [(k, v)]).toArray.filter (fun e => !(seenA 0).contains e.born) = #[{ key := k, val := v, born := 0 }] := by simp [entsV, seenA]
theorem left1 (k v : Value) : (entsV 0 [(k, v)]).toArray.filter (fun e => !(seenA (0 + 1)).contains e.born) = #[] := by simp [entsV, seenA]
theorem leftE : (entsV 0 []).toArray.filter (fun e => !(seenA 0).contains e.born) = #[] := by simp [entsV]
theorem old0 (k v : Value) : (#[{ key := k, val := v, born := 0 }] : Array MapEntry).filter (fun e => decide (e.born < 1)) = #[{ key := k, val := v, born := 0 }] := by simp
theorem new0 (k v : Value) : (#[{ key := k, val := v, born := 0 }] : Array MapEntry).filter (fun e => decide (e.born ≥ 1)) = #[] := by simp
theorem filtE (p : MapEntry → Bool) : (#[] : Array MapEntry).filter p = #[] := by simp
noncomputable def miK (H : Hp) (id : Nat) (K : Nat → Nat → Nat → Bool) : Bool := optK (H.t.get id) fun b => Blk.rec (motive := fun _ => (Nat → Nat → Nat → Bool) → Bool) (fun _ _ _ _ => false) (fun _ _ _ _ => false) (fun _ _ _ => false) (fun i k n K => K i k n) (fun _ _ _ _ _ _ _ _ _ => false) (fun _ _ _ _ _ => false) b K
theorem miK_sound {id : Nat} {K : Nat → Nat → Nat → Bool} (h : miK H id K = true) : ∃ i k n, H.t.get id = some (.mi i k n) ∧ K i k n = true := by
  obtain ⟨b, h1, h2⟩ := optK_sound h
  cases b with
  | mi i k n => exact ⟨i, k, n, h1, h2⟩
  | _ => cases h2
noncomputable def eNextM (x : Operand) (s : Bool) (_P : Program) (L E : En) (H : Hp) (K : HK) : Bool := Bool.rec (motive := fun _ => Bool) (asP (opV x L E) fun i off => andK (Nat.beq off 0) (miK H i fun id k n => mpK H id fun ks vs => len01 ks fun n' => andK (Nat.beq n n') (Nat.rec (motive := fun _ => Bool)
  (Nat.rec (motive := fun _ => Bool) (K (.tup (.cons (.b false) .nil)) H) (fun _ _ => asCons ks fun kk _ => asCons vs fun vv _ => turnO H i (.mi id 1 1) fun H => K (.tup (.cons (.b true) (.cons kk (.cons vv .nil)))) H) n)
  (fun k' _ => andK (Nat.beq k' 0) (andK (Nat.beq n 1) (K (.tup (.cons (.b false) .nil)) H))) k))) false s
theorem eNextM_sound {x : Operand} {s : Bool} (hop : o.op = .next x s) (hi : Inv1 m H) (he : EnvRel m L E e) (hs : Mem W0 m H Fr w) (h : eNextM x s P L E H K = true) : ES P e o W0 Fr m w K := by
  cases s with
  | true => cases h
  | false =>
    obtain ⟨i, off, h1, h2⟩ := asP_sound (v := opV x L E) h
    obtain ⟨h3, h4⟩ := andK_sound h2
    have h3 := Nat.eq_of_beq_eq_true h3
    subst h3
    obtain ⟨id, k, n, h5, h6⟩ := miK_sound h4
    obtain ⟨ks, vs, h7, h8⟩ := mpK_sound h6
    obtain ⟨bi, ci, r1, r2⟩ := (opR he h1 : rel m (.p i 0) _)
    obtain ⟨R, b', cap, u, g1, ⟨b, c, g2, rfl⟩, g3, g4⟩ := hs.opnO (hi.1.pos hi.2 r1) h5 trivial
    have hbb : b' = bi := by rw [g1] at r1; cases r1; rfl
    subst hbb
    obtain ⟨kvs, q1, q2, q3⟩ := map_get (P := P) hi hs g2 h7
    have hget : (getObj b').run P w = .ok (.mapIter (some b) n (seenA k) n) w := by
      have := g3.get (i := 0) rfl
      simp [getObj, Sem.run, this]
    have hrun : (execOp (ev e) o).run P w = ((Instr.next (ptr b' 0) false o.type).run P w).andThen fun v => (pure (Next.value v) : Sem Next).run P := by
      unfold execOp; rw [hop]; simp only [show ev e x = ptr b' 0 from r2]
      simp only [Sem.run_bind]
    have hover : K (.tup (.cons (.b false) .nil)) H = true → (Instr.next (ptr b' 0) false o.type).run P w = .ok (.tuple #[.bool false]) w → ES P e o W0 Fr m w K := fun hK hr =>
      ⟨.tuple #[.bool false], w, .inl (by rw [hrun, hr]; rfl), m, H, .tup (.cons (.b false) .nil), Map.le_refl m, hi, ⟨[.bool false], ⟨_, [], rfl, rfl, rfl⟩, rfl⟩, hs, hK⟩
    rcases len01_sound h8 q1 with ⟨rfl, e1, h9⟩ | ⟨kk, ku, rfl, e1, hkk, h9⟩
    · obtain ⟨h10, h11⟩ := andK_sound h9
      have h10 := Nat.eq_of_beq_eq_true h10
      subst h10
      have hk0 : kvs = [] := List.map_eq_nil_iff.1 e1
      subst hk0
      cases k with
      | succ k' =>
        obtain ⟨h12, h13⟩ := andK_sound (c := Nat.beq k' 0) h11
        obtain ⟨h14, _⟩ := andK_sound h13
        cases h14
      | zero =>
        refine hover h11 ?_
        unfold Instr.next ptr
        simp only [Sem.run_bind, hget, q3, Result.andThen_ok, List.length_cons, List.length_nil, left1, leftE, filtE]
        simp [seenA, entsV, Question.forced]
    · obtain ⟨h10, h11⟩ := andK_sound h9
      have h10 := Nat.eq_of_beq_eq_true h10
      subst h10
      obtain ⟨kv, rfl⟩ : ∃ kv, kvs = [kv] := by
        cases kvs with
        | nil => cases e1
        | cons a l => cases l with
          | nil => exact ⟨a, rfl⟩
          | cons _ _ => simp at e1
      obtain ⟨k0, v0⟩ := kv
      have hku : ku = k0 := by simpa using (List.cons.inj e1).1.symm
      subst hku
      cases k with
      | succ k' =>
        obtain ⟨h12, h13⟩ := andK_sound (c := Nat.beq k' 0) h11
        obtain ⟨_, h15⟩ := andK_sound h13
        have h12 := Nat.eq_of_beq_eq_true h12
        subst h12
        refine hover h15 ?_
        unfold Instr.next ptr
        simp only [Sem.run_bind, hget, q3, Result.andThen_ok, List.length_cons, List.length_nil, left1, leftE, filtE]
        simp [seenA, entsV, Question.forced]
      | zero =>
        have h11 : asCons (.cons kk .nil) (fun kk _ => asCons vs fun vv _ => turnO H i (.mi id 1 1) fun H => K (.tup (.cons (.b true) (.cons kk (.cons vv .nil)))) H) = true := h11
        obtain ⟨_, _, he1, h12⟩ := asCons_sound h11
        cases he1
        obtain ⟨vv, vt, rfl, h13⟩ := asCons_sound h12
        rw [turnO_eq] at h13
        obtain ⟨vu, vus, r3, r4, r5⟩ := q2
        have hvu : vu = v0 := by simpa using (List.cons.inj r5).1.symm
        subst hvu
        obtain ⟨w', a1, a2⟩ := run_setObj (P := P) (m := m) (B := .mi id 0 1) (u' := .mapIter (some b) 1 #[0] 1) ⟨b, c, g2, rfl⟩ g3
        refine ⟨.tuple #[.bool true, ku, vu], w', .inl ?_, m, ⟨H.next, Tr.set (some (.mi id 1 1)) H.t i⟩, .tup (.cons (.b true) (.cons kk (.cons vv .nil))), Map.le_refl m, ⟨hi.1.tree _, hi.2⟩, ⟨[_, _, _], ⟨_, _, rfl, ⟨_, _, hkk, ⟨_, _, r3, rfl, rfl⟩, rfl⟩, rfl⟩, rfl⟩, ?_, h13⟩
        · rw [hrun]
          have hn : (Instr.next (ptr b' 0) false o.type).run P w = ((setObj b' (.mapIter (some b) 1 #[0] 1)).run P w).andThen fun _ w => .ok (.tuple #[.bool true, ku, vu]) w := by
            unfold Instr.next ptr
            simp only [Sem.run_bind, hget, q3, Result.andThen_ok, List.length_cons, List.length_nil, left0, old0, new0, Nat.zero_add]
            simp [seenA, entsV, Question.forced]
          rw [hn, a1]
          rfl
        · exact (a2.mono (Ent.cons (Ent.asnO (B := .mi id 1 1) g1 ⟨b, c, g2, rfl⟩) (Ent.refl _))).mono (g4 m _)
end
section
variable {P : Program} {e : Env} {o : Oper} {m : Map} {L E : En} {W0 w : World} {H : Hp} {Fr : Assn} {K : HK}
noncomputable def eEntryM (x : Operand) (L E : En) (H : Hp) (K : AV → Bool) : Bool := asP (opV x L E) fun i off => andK (Nat.beq off 0) (miK H i fun id k n => andK (Nat.beq k 1) (andK (Nat.beq n 1) (mpK H id fun ks vs => asCons ks fun kk kt => asNil kt (asCons vs fun vv vt => asNil vt (K (.tup (.cons kk (.cons vv .nil))))))))
theorem eEntryM_sound {x : Operand} {K : AV → Bool} (hop : o.op = .entry x) (hi : Inv1 m H) (he : EnvRel m L E e) (hs : Mem W0 m H Fr w) (h : eEntryM x L E H K = true) : LS P e o m w K := by
  obtain ⟨i, off, h1, h2⟩ := asP_sound (v := opV x L E) h
  obtain ⟨h3, h4⟩ := andK_sound h2
  have h3 := Nat.eq_of_beq_eq_true h3
  subst h3
  obtain ⟨id, k, n, h5, h6⟩ := miK_sound h4
  obtain ⟨hk, h6⟩ := andK_sound h6
  obtain ⟨hn, h6⟩ := andK_sound h6
  have hk := Nat.eq_of_beq_eq_true hk
  have hn := Nat.eq_of_beq_eq_true hn
  subst hk hn
  obtain ⟨ks, vs, h7, h8⟩ := mpK_sound h6
  obtain ⟨kk, kt, rfl, h9⟩ := asCons_sound h8
  obtain ⟨rfl, h10⟩ := asNil_sound h9
  obtain ⟨vv, vt, rfl, h11⟩ := asCons_sound h10
  obtain ⟨rfl, h12⟩ := asNil_sound h11
  obtain ⟨bi, ci, r1, r2⟩ := (opR he h1 : rel m (.p i 0) _)
  obtain ⟨R, b', cap, u, g1, ⟨b, c, g2, rfl⟩, g3, g4⟩ := hs.opnO (hi.1.pos hi.2 r1) h5 trivial
  have hbb : b' = bi := by rw [g1] at r1; cases r1; rfl
  subst hbb
  obtain ⟨kvs, ⟨ku, kus, q1, q1', q1''⟩, ⟨vu, vus, q2, q2', q2''⟩, q3⟩ := map_get (P := P) hi hs g2 h7
  have q1' : kus = [] := q1'
  have q2' : vus = [] := q2'
  subst q1' q2'
  obtain ⟨kv, rfl⟩ : ∃ kv, kvs = [kv] := by
    cases kvs with
    | nil => cases q1''
    | cons a l => cases l with
      | nil => exact ⟨a, rfl⟩
      | cons _ _ => simp at q1''
  obtain ⟨k0, v0⟩ := kv
  have hku : ku = k0 := by simpa using (List.cons.inj q1'').1.symm
  have hvu : vu = v0 := by simpa using (List.cons.inj q2'').1.symm
  subst hku hvu
  have hget : (getObj b').run P w = .ok (.mapIter (some b) 1 (seenA 1) 1) w := by
    have := g3.get (i := 0) rfl
    simp [getObj, Sem.run, this]
  refine ⟨.tup (.cons kk (.cons vv .nil)), .tuple #[ku, vu], ?_, ⟨[_, _], ⟨_, _, q1, ⟨_, _, q2, rfl, rfl⟩, rfl⟩, rfl⟩, h12⟩
  have hn : (Instr.entry (ptr b' 0)).run P w = .ok (.tuple #[ku, vu]) w := by
    unfold Instr.entry ptr
    simp only [Sem.run_bind, hget, Result.andThen_ok]
    have hb : (seenA 1).back? = some 0 := rfl
    simp only [hb, q3, Sem.run_bind, Result.andThen_ok, List.length_cons, List.length_nil]
    simp [entsV]
  unfold execOp; rw [hop]; simp only [show ev e x = ptr b' 0 from r2]
  simp only [Sem.run_bind, hn, Result.andThen_ok, Sem.run_pure]
end
end Go.Evl
