/-
  Texts gone through rune by rune. It proves nothing of the program by itself.
-/
import Derived.Test.YtokbjejbgbdkoaaDoorGSl9
import Derived.Lib.Builder
import Derived.Lib.UnsafeStr
set_option linter.unusedVariables false
set_option linter.unusedSimpArgs false
namespace Go.Sl
open Go
/-- Where a text is gone through. -/
def iter (b : Nat) (l : List UInt8) (pos : Nat) : Assn := blk b (.stringIter ⟨l.toArray⟩ pos)
/-- The rune at a place, and how wide it is. -/
def dec (l : List UInt8) (i : Nat) : Nat × Nat := Utf8.decode ⟨l.toArray⟩ i
section
variable {P : Program} {e : Env} {o : Oper} {Hs : List Assn} {x : Operand}
theorem e_range {t : TypeId} {l : List UInt8} (hop : o.op = .range t x) (ht : P.underlying t = some .string) (hx : ev e x = strV l) : ERun P e Hs o (fun u H => ∃ b, u = ptr b 0 ∧ H = iter b l 0 :: Hs) := by
  intro W0 w hs
  refine ⟨ptr w.heap.size 0, w.alloc (.stringIter ⟨l.toArray⟩ 0), _, .inl ?_, ⟨w.heap.size, rfl, rfl⟩, hs.alloc _⟩
  unfold execOp; rw [hop]; simp only [hx]
  unfold strV Instr.range
  simp only [Sem.run_bind, run_underlying' ht, Result.andThen_ok, Sem.run_pure]
  rfl
theorem e_next_end {i b pos : Nat} {l : List UInt8} (hop : o.op = .next x true) (hx : ev e x = ptr b 0) (hn : nth Hs i = some (iter b l pos)) (hp : l.length ≤ pos) : ERun P e Hs o (fun u H => u = .tuple #[.bool false] ∧ H = Hs) := by
  intro W0 w hs
  have hb := hs.get hn
  have hget : (getObj b).run P w = .ok (.stringIter ⟨l.toArray⟩ pos) w := by simp [getObj, Sem.run, hb]
  have hsz : (ByteArray.mk l.toArray).size = l.length := by show l.toArray.size = l.length; simp
  have hnp : ¬ pos < l.length := by omega
  refine ⟨_, w, _, .inl ?_, ⟨rfl, rfl⟩, hs⟩
  unfold execOp; rw [hop]; simp only [hx]
  unfold Instr.next ptr
  simp only [Sem.run_bind, hget, Result.andThen_ok, hsz, hnp, if_false, Sem.run_pure]
theorem e_next_go {i b pos : Nat} {l : List UInt8} (hop : o.op = .next x true) (hx : ev e x = ptr b 0) (hn : nth Hs i = some (iter b l pos)) (hp : pos < l.length) :
    ERun P e Hs o (fun u H => u = .tuple #[.bool true, intV pos, .int .i32 ((dec l pos).1 : Int)] ∧ H = setN Hs i (iter b l (pos + (dec l pos).2))) := by
  intro W0 w hs
  have hb := hs.get hn
  have hget : (getObj b).run P w = .ok (.stringIter ⟨l.toArray⟩ pos) w := by simp [getObj, Sem.run, hb]
  have hsz : (ByteArray.mk l.toArray).size = l.length := by show l.toArray.size = l.length; simp
  have hlt : b < w.heap.size := by
    rcases Nat.lt_or_ge b w.heap.size with g | g
    · exact g
    · rw [Array.getElem?_eq_none g] at hb; cases hb
  have hset : (setObj b (.stringIter ⟨l.toArray⟩ (pos + (dec l pos).2))).run P w = .ok () { w with heap := w.heap.setIfInBounds b (.stringIter ⟨l.toArray⟩ (pos + (dec l pos).2)) } := by simp [setObj, Sem.run, hb]
  refine ⟨_, { w with heap := w.heap.setIfInBounds b (.stringIter ⟨l.toArray⟩ (pos + (dec l pos).2)) }, _, .inl ?_, ⟨rfl, rfl⟩, hs.put hn (by first | exact ⟨rfl, rfl, rfl, by simp, Nat.le_refl _⟩ | exact ⟨rfl, rfl, rfl, by simp⟩) ?_ (fun k hk _ => ?_)⟩
  · unfold execOp; rw [hop]; simp only [hx]
    unfold Instr.next ptr
    have hd : Utf8.decode ⟨l.toArray⟩ pos = ((dec l pos).1, (dec l pos).2) := rfl
    simp only [Sem.run_bind, hget, Result.andThen_ok, hsz, hp, if_true, hd, hset, Sem.run_pure]
    rfl
  · simp [Array.getElem?_setIfInBounds, hlt]
  · simp [Array.getElem?_setIfInBounds, Ne.symm hk]
end
theorem get_arr {l : List UInt8} {i : Nat} (hi : i < l.length) : (ByteArray.mk l.toArray).get! i = l[i] := by
  show (l.toArray)[i]! = l[i]
  simp [hi]
theorem dec_low {l : List UInt8} {i : Nat} (hi : i < l.length) (h : l[i].toNat < 128) : dec l i = (l[i].toNat, 1) := by
  unfold dec Utf8.decode
  simp only [Nat.add_zero, get_arr hi, h, if_true]
/-- A rune that is no letter of one byte: big, and all bytes behind its first one are big. -/
theorem dec_high {l : List UInt8} {i : Nat} (hi : i < l.length) (h : ¬ l[i].toNat < 128) : 128 ≤ (dec l i).1 ∧ (dec l i).1 < 1114112 ∧ 1 ≤ (dec l i).2 ∧ i + (dec l i).2 ≤ l.length ∧ ∀ k (hk : k < l.length), i < k → k < i + (dec l i).2 → 128 ≤ l[k].toNat := by
  have hsz : (ByteArray.mk l.toArray).size = l.length := by show l.toArray.size = l.length; simp
  have hc : ∀ k, (decide (i + k < l.length) && ((ByteArray.mk l.toArray).get! (i + k)).toNat / 64 == 2) = true → ∃ hk : i + k < l.length, 128 ≤ l[i + k].toNat := fun k hh => by
    simp only [Bool.and_eq_true, decide_eq_true_eq, beq_iff_eq] at hh
    obtain ⟨h1, h2⟩ := hh
    rw [get_arr h1] at h2
    exact ⟨h1, by omega⟩
  have one : 128 ≤ (Utf8.runeError, 1).1 ∧ (Utf8.runeError, 1).1 < 1114112 ∧ 1 ≤ (Utf8.runeError, 1).2 ∧ i + (Utf8.runeError, 1).2 ≤ l.length ∧ ∀ k (hk : k < l.length), i < k → k < i + (Utf8.runeError, 1).2 → 128 ≤ l[k].toNat :=
    ⟨by decide, by decide, by decide, by show i + 1 ≤ _; omega, fun k hk g1 g2 => by have g2 : k < i + 1 := g2; omega⟩
  have hb : ∀ n : Nat, (UInt8.toNat l[i]) = n → n < 256 := fun n g => by rw [← g]; exact l[i].toNat_lt
  unfold dec Utf8.decode
  simp only [Nat.add_zero, get_arr hi, h, if_false, hsz]
  split
  · rename_i hh
    simp only [Bool.and_eq_true] at hh
    obtain ⟨k1, q1⟩ := hc 1 (by simpa using hh.2)
    split
    · rename_i hv
      refine ⟨hv, ?_, Nat.succ_le_succ (Nat.zero_le _), by show i + 2 ≤ _; omega, fun k hk g1 g2 => ?_⟩
      · have := Nat.mod_lt (UInt8.toNat l[i]) (show 0 < 32 by omega)
        have := Nat.mod_lt ((ByteArray.mk l.toArray).get! (i + 1)).toNat (show 0 < 64 by omega)
        show _ * 64 + _ < _
        omega
      · have g2 : k < i + 2 := g2
        obtain rfl : k = i + 1 := by omega
        exact q1
    · exact one
  · split
    · rename_i hh
      simp only [Bool.and_eq_true] at hh
      obtain ⟨k1, q1⟩ := hc 1 (by simpa using hh.1.2)
      obtain ⟨k2, q2⟩ := hc 2 (by simpa using hh.2)
      split
      · rename_i hv
        simp only [Bool.and_eq_true, decide_eq_true_eq] at hv
        refine ⟨by show 128 ≤ _ * 4096 + _ * 64 + _; omega, ?_, Nat.succ_le_succ (Nat.zero_le _), by show i + 3 ≤ _; omega, fun k hk g1 g2 => ?_⟩
        · have := Nat.mod_lt (UInt8.toNat l[i]) (show 0 < 16 by omega)
          have := Nat.mod_lt ((ByteArray.mk l.toArray).get! (i + 1)).toNat (show 0 < 64 by omega)
          have := Nat.mod_lt ((ByteArray.mk l.toArray).get! (i + 2)).toNat (show 0 < 64 by omega)
          show _ * 4096 + _ * 64 + _ < _
          omega
        · have g2 : k < i + 3 := g2
          by_cases e1 : k = i + 1
          · subst e1; exact q1
          · obtain rfl : k = i + 2 := by omega
            exact q2
      · exact one
    · split
      · rename_i hh
        simp only [Bool.and_eq_true] at hh
        obtain ⟨k1, q1⟩ := hc 1 (by simpa using hh.1.1.2)
        obtain ⟨k2, q2⟩ := hc 2 (by simpa using hh.1.2)
        obtain ⟨k3, q3⟩ := hc 3 (by simpa using hh.2)
        split
        · rename_i hv
          simp only [Bool.and_eq_true, decide_eq_true_eq] at hv
          refine ⟨by show 128 ≤ _ * 262144 + _ * 4096 + _ * 64 + _; omega, ?_, Nat.succ_le_succ (Nat.zero_le _), by show i + 4 ≤ _; omega, fun k hk g1 g2 => ?_⟩
          · have hv2 := hv.2
            unfold Utf8.valid at hv2
            simp only [Bool.or_eq_true, Bool.and_eq_true, decide_eq_true_eq] at hv2
            show _ * 262144 + _ * 4096 + _ * 64 + _ < _
            omega
          · have g2 : k < i + 4 := g2
            by_cases e1 : k = i + 1
            · subst e1; exact q1
            · by_cases e2 : k = i + 2
              · subst e2; exact q2
              · obtain rfl : k = i + 3 := by omega
                exact q3
        · exact one
      · exact one
end Go.Sl
namespace Go.Sl
open Go
section
variable {P : Program} {e : Env} {o : Oper} {x y : Operand}
end
end Go.Sl
namespace Go.Sl
open Go
/-- unsafe.SliceData. -/
def sdata : Value → Value
  | .slice a _ _ => .pointer a
  | v => v
section
variable {P : Program} {e : Env} {o : Oper} {Hs Rs : List Assn} {x y : Operand}
theorem Sat.shape {W0 w : World} {L : List Assn} {i b : Nat} {T : TypeId} {cs : List Value} (s : Sat W0 (sep L) w) (h : nth L i = some (row b T cs)) : w.shape? b = some (T, cs.length) := by
  obtain ⟨lo, hi, h1, _⟩ := s.getRow h
  simp [World.shape?, h1]
theorem p_noEsc {f : FuncId} {fn : Func} {u : Value} {ats : Array TypeId} (hop : o.op = .call { callee := .value (.func f), args := #[x], argTypes := ats }) (hf : P.funcs[f]? = some fn) (hname : (fn.name == "runtime.NumGoroutine") = false) (hb : fn.body.isNone = true) (hn : Extern.findNext fn = none)
    (he : Extern.find fn = some Extern.AbiNoEscape.same) (hx : ev e x = u) : PRun P e o u := by
  intro w
  have hrun : (callFunc f ([u] : List Value).toArray).run P w = .ok (.value u) w := by
    simp only [callFunc, Sem.run_bind, run_program, Result.andThen_ok, hf, hname, Bool.false_eq_true, if_false, hb, if_true, hn, he]
    rfl
  unfold execOp; rw [hop]
  have : (#[x] : Array Operand).map (ev e) = ([u] : List Value).toArray := by rw [← hx]; apply Array.ext'; simp
  simp only [resolve, ev, Deferred.ofValue, Sem.run_bind, Sem.run_pure, Result.andThen_ok, invoke, this]
  have h2 : (#[] ++ ([u] : List Value).toArray ++ #[] : Array Value) = ([u] : List Value).toArray := by simp
  rw [h2, hrun]
theorem p_ptrneq_self {t t' el : TypeId} {b off : Nat} (hop : o.op = .binOp .neq t x y t') (hx : ev e x = ptr b off) (hy : ev e y = ptr b off) (ht : P.underlying t = some (.pointer el)) {sz : Nat} (hsz : TySize P el sz) : PRun P e o (.bool false) := by
  intro w; unfold execOp; rw [hop]; simp only [hx, hy]
  have : (Op.equal t (ptr b off) (ptr b off)).run P w = .ok true w := by
    have key : ∀ d, (Op.equalIn (d + 1) t (ptr b off) (ptr b off)).run P w = .ok true w := by
      intro d
      simp [Op.equalIn, run_underlying' ht, ptr, run_sizeOf' hsz, sameAddr]
    exact key 9999
  have hb : (binOp .neq t (ptr b off) (ptr b off)).run P w = .ok (.bool false) w := by
    unfold binOp
    simp only [Sem.run_bind, this, Result.andThen_ok, Sem.run_pure]
    rfl
  simp only [eqGuard, Sem.run_bind]
  show ((binOp .neq t (ptr b off) (ptr b off)).run P w).andThen _ = _
  rw [hb]
  rfl
theorem q_toUnsafe {s d t T : TypeId} {i b off sz : Nat} {cs : List Value} (hop : o.op = .convert s d x) (hs : P.underlying s = some (.pointer t)) (hd : P.underlying d = some .unsafePointer) (ht : TySize P t sz) (hj : sz ≠ 0) (hx : ev e x = ptr b off)
    (hi : nth Rs i = some (row b T cs)) (hoff : off < cs.length) : QRun P e Rs o (ptr b off) := by
  intro W0 w hS
  obtain ⟨j, ht, rfl⟩ := ht
  have h := Go.Lib.run_to_unsafe (P := P) w ⟨b, off, none⟩ hs hd ht hj (hS.shape hi) hoff
  unfold execOp; rw [hop]; simp only [hx]
  unfold ptr
  simp only [Sem.run_bind, h, Result.andThen_ok, Sem.run_pure]
theorem q_fromUnsafe {s d u T : TypeId} {i b off sz : Nat} {cs : List Value} (hop : o.op = .convert s d x) (hs : P.underlying s = some .unsafePointer) (hd : P.underlying d = some (.pointer u)) (hu : TySize P u sz) (hx : ev e x = ptr b off)
    (hi : nth Rs i = some (row b T cs)) (hl : liesAt P P.depth T (cs.length / P.cellsOf T) off u 1 = true) : QRun P e Rs o (ptr b off) := by
  intro W0 w hS
  obtain ⟨j, hu, -⟩ := hu
  have h := Go.Lib.run_from_unsafe (P := P) w ⟨b, off, none⟩ hs hd hu (hS.shape hi) hl
  unfold execOp; rw [hop]; simp only [hx]
  unfold ptr
  simp only [Sem.run_bind, h, Result.andThen_ok, Sem.run_pure]
theorem p_sliceData {t : TypeId} {a : Option Addr} {n c : Nat} (hop : o.op = .call { callee := .builtin .unsafeSliceData, args := #[x], argTypes := #[t] }) (hx : ev e x = .slice a n c) (hc : a.isSome = true → c ≠ 0) : PRun P e o (sdata (.slice a n c)) := by
  intro w
  refine run_builtin hop ?_
  rw [map1, hx]
  show ((do pure (Next.value (← Builtin.unsafeSliceData_ #[t] o.type #[.slice a n c])) : Sem Next)).run P w = _
  have h : (Builtin.unsafeSliceData_ #[t] o.type #[.slice a n c]).run P w = .ok (.pointer a) w := by
    cases a with
    | none => exact Go.Lib.run_unsafeSliceData_nil w _ _ _ _
    | some a => exact Go.Lib.run_unsafeSliceData_row w _ _ _ _ _ (hc rfl)
  simp only [Sem.run_bind, h, Result.andThen_ok, Sem.run_pure]
  rfl
theorem e_unsafeString {t t' el : TypeId} {i : Nat} {sv : Value} {l : List UInt8} (hop : o.op = .call { callee := .builtin .unsafeString, args := #[x, y], argTypes := #[t, t'] }) (ht : P.underlying t = some (.pointer el)) (hcell : P.cellsOf el = 1)
    (hx : ev e x = sdata sv) (hy : ev e y = intV l.length) (hi : nth Hs i = some (vec el 1 sv l.length (l.map u8V))) (hl : l = [] → sv = .slice none 0 0) (h63 : l.length ≤ 9223372036854775807) :
    ERun P e Hs o (fun u H => u = strV l ∧ H = delN Hs i) := by
  intro W0 w hS
  have s1 := hS.mono (Ent.perm (perm_nth hi))
  have hdel : Sat W0 (sep (delN Hs i)) w := s1.mono (Ent.drop _ _)
  have hv : (sv = .slice none 0 0 ∧ l.length = 0) ∨ ∃ b cap rest, sv = slc b 0 l.length cap ∧ l.length ≤ cap ∧ (l.map u8V ++ rest).length = cap ∧ Sat W0 (sep (row b el (l.map u8V ++ rest) :: delN Hs i)) w := by
    obtain ⟨k0, h, hw, h1, h2, dj, rfl, ⟨hlen, hcase⟩, hrest⟩ := s1
    rcases hcase with hc | ⟨b, cap, rest, e1, e2, e3, e4, e5⟩
    · exact .inl hc
    · exact .inr ⟨b, cap, rest, e1, e2, by rw [e4, Nat.mul_one], k0, _, hw, h1, h2, dj, rfl, e5, hrest⟩
  rcases hv with ⟨rfl, h0⟩ | ⟨b, cap, rest, rfl, hle, hlen, s2⟩
  · obtain rfl : l = [] := List.eq_nil_of_length_eq_zero h0
    refine ⟨strV [], w, _, .inl (run_builtin hop ?_), ⟨rfl, rfl⟩, hdel⟩
    rw [map2, hx, hy]
    have hrun := Go.Lib.run_unsafeString_none (P := P) (w := w) t t' o.type none
    have hk : (Builtin.unsafeString_ #[t, t'] o.type #[.pointer none, intV 0]).run P w = .ok (.string .empty) w := hrun
    show ((do pure (Next.value (← Builtin.unsafeString_ #[t, t'] o.type #[.pointer none, intV 0])) : Sem Next)).run P w = _
    simp only [Sem.run_bind, hk, Result.andThen_ok, Sem.run_pure]
    rfl
  · have hne : l ≠ [] := fun g => by
      have := hl g
      unfold slc at this
      cases this
    have hcl : ∀ (j : Nat) (u : UInt8), l[j]? = some u → w.cell? ((⟨b, 0, none⟩ : Addr).add j) = some (.int .u8 u.toNat) := fun j u hj => by
      have e1 : (l.map u8V ++ rest)[j]? = some (u8V u) := by
        have hj' : j < l.length := by
          rcases Nat.lt_or_ge j l.length with g | g
          · exact g
          · rw [List.getElem?_eq_none (by omega)] at hj; cases hj
        rw [List.getElem?_append_left (by simpa using hj'), List.getElem?_map, hj]
        rfl
      have := s2.cell (i := 0) rfl e1
      have e2 : (⟨b, 0, none⟩ : Addr).add j = ⟨b, j, none⟩ := by
        unfold Addr.add
        by_cases g : j = 0
        · subst g; simp
        · simp [g]
      rw [e2]
      exact this
    have hrun := Go.Lib.run_unsafeString_row (P := P) w t t' o.type el ht hcell b (l.map u8V ++ rest).length (s2.shape (i := 0) rfl) l hne (by rw [hlen]; exact hle) h63 hcl
    have hdrop : Sat W0 (sep (delN Hs i)) (w.freeze ⟨b, 0, none⟩ l.length) := by
      obtain ⟨k0, hx', hh⟩ := s2
      obtain ⟨hw, q1, q2, dj, rfl, ha, hrest⟩ := hh
      have hfr : (w.freeze ⟨b, 0, none⟩ l.length).heap.size = w.heap.size ∧ (∀ k, k ≠ b → (w.freeze ⟨b, 0, none⟩ l.length).heap[k]? = w.heap[k]?) ∧ Kept w (w.freeze ⟨b, 0, none⟩ l.length) := by
        unfold World.freeze
        split
        · exact ⟨rfl, fun _ _ => rfl, Kept.refl _⟩
        · exact ⟨by simp, fun k hk => by simp only [Array.getElem?_modify]; rw [if_neg (Ne.symm hk)], ⟨rfl, rfl, rfl, by simp⟩⟩
      refine ⟨k0.trans hfr.2.2, q2, fun k u hu => ?_, hrest⟩
      have hkb : k ≠ b := by
        intro g
        subst g
        obtain ⟨lo, hi2, hb0, _⟩ := ha
        rcases dj k with e1 | e1
        · rw [hb0] at e1; cases e1
        · rw [hu] at e1; cases e1
      rw [hfr.2.1 k hkb]
      exact hw k u (Frag.le_join_right dj k u hu)
    refine ⟨strV l, _, _, .inl (run_builtin hop ?_), ⟨rfl, rfl⟩, hdrop⟩
    rw [map2, hx, hy]
    have hk : (Builtin.unsafeString_ #[t, t'] o.type #[.pointer (some ⟨b, 0, none⟩), intV l.length]).run P w = .ok (.string ⟨l.toArray⟩) (w.freeze ⟨b, 0, none⟩ l.length) := hrun
    show ((do pure (Next.value (← Builtin.unsafeString_ #[t, t'] o.type #[.pointer (some ⟨b, 0, none⟩), intV l.length])) : Sem Next)).run P w = _
    simp only [Sem.run_bind, hk, Result.andThen_ok, Sem.run_pure]
end
end Go.Sl
namespace Go.Sl
open Go
/-- A builder's cells and its bytes. -/
def bldX (T el b : Nat) (l : List UInt8) (q : Value × Value) : Assn := fun h => ((q.1 = .pointer none ∨ q.1 = ptr b 0) ∧ q.2.oneCell' = true ∧ (l = [] → q.2 = .slice none 0 0)) ∧ sep [row b T [q.1, q.2], vec el 1 q.2 l.length (l.map u8V)] h
def bld (T el b : Nat) (l : List UInt8) : Assn := ex (bldX T el b l)
theorem bld_out {W0 w : World} {T el b : Nat} {l : List UInt8} {L : List Assn} (s : Sat W0 (sep (bld T el b l :: L)) w) :
    ∃ p sv, ((p = .pointer none ∨ p = ptr b 0) ∧ sv.oneCell' = true ∧ (l = [] → sv = .slice none 0 0)) ∧ Sat W0 (sep (row b T [p, sv] :: vec el 1 sv l.length (l.map u8V) :: L)) w := by
  obtain ⟨⟨p, sv⟩, s⟩ := s.out
  obtain ⟨k, x, hx, h1, h2, d, rfl, ⟨hc, ha⟩, hl⟩ := s
  refine ⟨p, sv, hc, ?_⟩
  have s2 : Sat W0 (sep (sep [row b T [p, sv], vec el 1 sv l.length (l.map u8V)] :: L)) w := ⟨k, _, hx, h1, h2, d, rfl, ha, hl⟩
  exact s2.mono (Ent.flat _ _)
theorem Ctr.ofBld {P : Program} {f : FuncId} {args : List Value} {T el b : Nat} {l : List UInt8} {post : Value → List Assn → Prop}
    (h : ∀ p sv, (p = .pointer none ∨ p = ptr b 0) → sv.oneCell' = true → (l = [] → sv = .slice none 0 0) → Ctr P f args [row b T [p, sv], vec el 1 sv l.length (l.map u8V)] post) : Ctr P f args [bld T el b l] post :=
  ⟨(h (.pointer none) (.slice none 0 0) (.inl rfl) rfl (fun _ => rfl)).1, fun W0 Fr w hs => by
    obtain ⟨p, sv, ⟨h1, h2, h3⟩, s⟩ := bld_out (L := [Fr]) hs
    exact (h p sv h1 h2 h3).2 W0 Fr w s⟩
theorem bld_in {T el b n : Nat} {l : List UInt8} {p sv : Value} {xs : List Value} {L : List Assn} (hp : p = .pointer none ∨ p = ptr b 0) (h1 : sv.oneCell' = true) (h2 : l = [] → sv = .slice none 0 0) (hn : n = l.length) (hx : xs = l.map u8V) :
    Ent (sep (row b T [p, sv] :: vec el 1 sv n xs :: L)) (sep (bld T el b l :: L)) := by
  subst hn hx
  exact (Ent.unflat [_, _] L).trans (Ent.cons ((Ent.of_imp (B := bldX T el b l (p, sv)) fun _ h => ⟨⟨hp, h1, h2⟩, h⟩).trans (Ent.ex (A := bldX T el b l) (p, sv))) (Ent.refl _))
theorem bld_new {T el b : Nat} {L : List Assn} : Ent (sep (row b T [.pointer none, .slice none 0 0] :: L)) (sep (bld T el b [] :: L)) :=
  (Ent.cons (Ent.refl _) Ent.vec_nil').trans (bld_in (l := []) (.inl rfl) rfl (fun _ => rfl) rfl rfl)
end Go.Sl
namespace Go.Sl
open Go
section
variable {P : Program} {N : Nat} {Q : Next1} {e : Env} {Hs : List Assn} {ops : Array Oper} {i d : Nat} {l : List Nat} {o : Oper} {v : Value} {Bs : List Assn} {z : Nat} {ld : List (Nat × Kd3)} {x c y : Operand}
theorem RN.p (hi : nth ops.toList i = some o) (hq : PRun P e o v) (h : RN P N ops Q l (upd e d v) Hs) (hw : wantE ops.toList e o = true := by exact rfl) (hdst : o.dst = some d := by exact rfl) (hb : Nat.blt d N = true := by exact rfl) : RN P N ops Q (i :: l) e Hs := RN.qq hi hw hdst hb hq.q h
theorem RN.u (hi : nth ops.toList i = some o) (hq : QRun P e Hs o v) (h : RN P N ops Q l (upd e d v) Hs) (hw : wantE ops.toList e o = true := by exact rfl) (hdst : o.dst = some d := by exact rfl) (hb : Nat.blt d N = true := by exact rfl) : RN P N ops Q (i :: l) e Hs := RN.qq hi hw hdst hb hq h
theorem RN.a (hi : nth ops.toList i = some o) (h : RN P N ops Q l (upd e d v) Hs) (hop : o.op = .assign x := by exact rfl) (hv : ev e x = v := by conv => lhs; whnf) (hw : wantE ops.toList e o = true := by exact rfl) (hdst : o.dst = some d := by exact rfl) (hb : Nat.blt d N = true := by exact rfl) : RN P N ops Q (i :: l) e Hs := RN.qq hi hw hdst hb (p_assign hop hv).q h
theorem RN.m (hi : nth ops.toList i = some o) (h : RN P N ops Q l (upd e d v) Hs) (hop : o.op = .move x := by exact rfl) (hv : ev e x = v := by conv => lhs; whnf) (hw : wantE ops.toList e o = true := by exact rfl) (hdst : o.dst = some d := by exact rfl) (hb : Nat.blt d N = true := by exact rfl) : RN P N ops Q (i :: l) e Hs := RN.qq hi hw hdst hb (p_move hop hv).q h
theorem RN.pt (hi : nth ops.toList i = some o) (h : RN P N ops Q l (upd e d v) Hs) (hop : o.op = .pick c x y := by exact rfl) (hc : ev e c = .bool true := by exact rfl) (hv : ev e x = v := by conv => lhs; whnf) (hw : wantE ops.toList e o = true := by exact rfl) (hdst : o.dst = some d := by exact rfl) (hb : Nat.blt d N = true := by exact rfl) : RN P N ops Q (i :: l) e Hs := RN.qq hi hw hdst hb (p_pick_t hop hc hv).q h
theorem RN.pf (hi : nth ops.toList i = some o) (h : RN P N ops Q l (upd e d v) Hs) (hop : o.op = .pick c x y := by exact rfl) (hc : ev e c = .bool false := by exact rfl) (hv : ev e y = v := by conv => lhs; whnf) (hw : wantE ops.toList e o = true := by exact rfl) (hdst : o.dst = some d := by exact rfl) (hb : Nat.blt d N = true := by exact rfl) : RN P N ops Q (i :: l) e Hs := RN.qq hi hw hdst hb (p_pick_f hop hc hv).q h
theorem RN.no0 (hi : nth ops.toList i = some o) (h : RN P N ops Q l (upd e d undef) Hs) (hw : wantE ops.toList e o = false := by exact rfl) (hdst : o.dst = some d := by exact rfl) (hb : Nat.blt d N = true := by exact rfl) : RN P N ops Q (i :: l) e Hs := RN.O hi hw hdst hb h
theorem RD.n (hi : nth ops.toList i = some o) (hq : PRun P e o v) (h : RD P N ops Bs z Q ld (upd e d v) Hs) (hw : wantE ops.toList e o = true := by exact rfl) (hdst : o.dst = some d := by exact rfl) (hb : Nat.blt d N = true := by exact rfl) : RD P N ops Bs z Q ((i, .pure) :: ld) e Hs := RD.pp hi hw hdst hb hq h
end
end Go.Sl
