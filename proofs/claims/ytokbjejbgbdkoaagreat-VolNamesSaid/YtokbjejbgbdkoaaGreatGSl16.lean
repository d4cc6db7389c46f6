/-
  Texts gone through rune by rune. It proves nothing of the program by itself.
-/
import Derived.Test.YtokbjejbgbdkoaaGreatGSl9
set_option linter.unusedVariables false
set_option linter.unusedSimpArgs false
namespace Go.Sl
open Go
/-- Where a text is gone through. -/
def iter (b : Nat) (l : List UInt8) (pos : Nat) : Assn := blk b (.stringIter ⟨l.toArray⟩ pos)
/-- The rune at a place, and how wide it is. -/
def dec (l : List UInt8) (i : Nat) : Nat × Nat := Utf8.decode ⟨l.toArray⟩ i
section
variable {P : Program} {e : Env} {o : Oper} {Hs : List Assn} {x : Operand}
theorem e_range {t : TypeId} {l : List UInt8} (hop : o.op = .range t x) (ht : P.underlying t = some .string) (hx : ev e x = strV l) : ERun P e Hs o (fun u H => ∃ b, u = ptr b 0 ∧ H = iter b l 0 :: Hs) := by
  intro W0 w hs
  refine ⟨ptr w.heap.size 0, w.alloc (.stringIter ⟨l.toArray⟩ 0), _, .inl ?_, ⟨w.heap.size, rfl, rfl⟩, hs.alloc _⟩
  unfold execOp; rw [hop]; simp only [hx]
  unfold strV Instr.range
  simp only [Sem.run_bind, run_underlying' ht, Result.andThen_ok, Sem.run_pure]
  rfl
theorem e_next_end {i b pos : Nat} {l : List UInt8} (hop : o.op = .next x true) (hx : ev e x = ptr b 0) (hn : nth Hs i = some (iter b l pos)) (hp : l.length ≤ pos) : ERun P e Hs o (fun u H => u = .tuple #[.bool false] ∧ H = Hs) := by
  intro W0 w hs
  have hb := hs.get hn
  have hget : (getObj b).run P w = .ok (.stringIter ⟨l.toArray⟩ pos) w := by simp [getObj, Sem.run, hb]
  have hsz : (ByteArray.mk l.toArray).size = l.length := by show l.toArray.size = l.length; simp
  have hnp : ¬ pos < l.length := by omega
  refine ⟨_, w, _, .inl ?_, ⟨rfl, rfl⟩, hs⟩
  unfold execOp; rw [hop]; simp only [hx]
  unfold Instr.next ptr
  simp only [Sem.run_bind, hget, Result.andThen_ok, hsz, hnp, if_false, Sem.run_pure]
theorem e_next_go {i b pos : Nat} {l : List UInt8} (hop : o.op = .next x true) (hx : ev e x = ptr b 0) (hn : nth Hs i = some (iter b l pos)) (hp : pos < l.length) :
    ERun P e Hs o (fun u H => u = .tuple #[.bool true, intV pos, .int .i32 ((dec l pos).1 : Int)] ∧ H = setN Hs i (iter b l (pos + (dec l pos).2))) := by
  intro W0 w hs
  have hb := hs.get hn
  have hget : (getObj b).run P w = .ok (.stringIter ⟨l.toArray⟩ pos) w := by simp [getObj, Sem.run, hb]
  have hsz : (ByteArray.mk l.toArray).size = l.length := by show l.toArray.size = l.length; simp
  have hlt : b < w.heap.size := by
    rcases Nat.lt_or_ge b w.heap.size with g | g
    · exact g
    · rw [Array.getElem?_eq_none g] at hb; cases hb
  have hset : (setObj b (.stringIter ⟨l.toArray⟩ (pos + (dec l pos).2))).run P w = .ok () { w with heap := w.heap.setIfInBounds b (.stringIter ⟨l.toArray⟩ (pos + (dec l pos).2)) } := by simp [setObj, Sem.run, hb]
  refine ⟨_, { w with heap := w.heap.setIfInBounds b (.stringIter ⟨l.toArray⟩ (pos + (dec l pos).2)) }, _, .inl ?_, ⟨rfl, rfl⟩, hs.put hn (by first | exact ⟨rfl, rfl, rfl, by simp, Nat.le_refl _⟩ | exact ⟨rfl, rfl, rfl, by simp⟩) ?_ (fun k hk _ => ?_)⟩
  · unfold execOp; rw [hop]; simp only [hx]
    unfold Instr.next ptr
    have hd : Utf8.decode ⟨l.toArray⟩ pos = ((dec l pos).1, (dec l pos).2) := rfl
    simp only [Sem.run_bind, hget, Result.andThen_ok, hsz, hp, if_true, hd, hset, Sem.run_pure]
    rfl
  · simp [Array.getElem?_setIfInBounds, hlt]
  · simp [Array.getElem?_setIfInBounds, Ne.symm hk]
end
theorem get_arr {l : List UInt8} {i : Nat} (hi : i < l.length) : (ByteArray.mk l.toArray).get! i = l[i] := by
  show (l.toArray)[i]! = l[i]
  simp [hi]
theorem dec_low {l : List UInt8} {i : Nat} (hi : i < l.length) (h : l[i].toNat < 128) : dec l i = (l[i].toNat, 1) := by
  unfold dec Utf8.decode
  simp only [Nat.add_zero, get_arr hi, h, if_true]
/-- A rune that is no letter of one byte: big, and all bytes behind its first one are big. -/
theorem dec_high {l : List UInt8} {i : Nat} (hi : i < l.length) (h : ¬ l[i].toNat < 128) : 128 ≤ (dec l i).1 ∧ (dec l i).1 < 1114112 ∧ 1 ≤ (dec l i).2 ∧ i + (dec l i).2 ≤ l.length ∧ ∀ k (hk : k < l.length), i < k → k < i + (dec l i).2 → 128 ≤ l[k].toNat := by
  have hsz : (ByteArray.mk l.toArray).size = l.length := by show l.toArray.size = l.length; simp
  have hc : ∀ k, (decide (i + k < l.length) && ((ByteArray.mk l.toArray).get! (i + k)).toNat / 64 == 2) = true → ∃ hk : i + k < l.length, 128 ≤ l[i + k].toNat := fun k hh => by
    simp only [Bool.and_eq_true, decide_eq_true_eq, beq_iff_eq] at hh
    obtain ⟨h1, h2⟩ := hh
    rw [get_arr h1] at h2
    exact ⟨h1, by omega⟩
  have one : 128 ≤ (Utf8.runeError, 1).1 ∧ (Utf8.runeError, 1).1 < 1114112 ∧ 1 ≤ (Utf8.runeError, 1).2 ∧ i + (Utf8.runeError, 1).2 ≤ l.length ∧ ∀ k (hk : k < l.length), i < k → k < i + (Utf8.runeError, 1).2 → 128 ≤ l[k].toNat :=
    ⟨by decide, by decide, by decide, by show i + 1 ≤ _; omega, fun k hk g1 g2 => by have g2 : k < i + 1 := g2; omega⟩
  have hb : ∀ n : Nat, (UInt8.toNat l[i]) = n → n < 256 := fun n g => by rw [← g]; exact l[i].toNat_lt
  unfold dec Utf8.decode
  simp only [Nat.add_zero, get_arr hi, h, if_false, hsz]
  split
  · rename_i hh
    simp only [Bool.and_eq_true] at hh
    obtain ⟨k1, q1⟩ := hc 1 (by simpa using hh.2)
    split
    · rename_i hv
      refine ⟨hv, ?_, Nat.succ_le_succ (Nat.zero_le _), by show i + 2 ≤ _; omega, fun k hk g1 g2 => ?_⟩
      · have := Nat.mod_lt (UInt8.toNat l[i]) (show 0 < 32 by omega)
        have := Nat.mod_lt ((ByteArray.mk l.toArray).get! (i + 1)).toNat (show 0 < 64 by omega)
        show _ * 64 + _ < _
        omega
      · have g2 : k < i + 2 := g2
        obtain rfl : k = i + 1 := by omega
        exact q1
    · exact one
  · split
    · rename_i hh
      simp only [Bool.and_eq_true] at hh
      obtain ⟨k1, q1⟩ := hc 1 (by simpa using hh.1.2)
      obtain ⟨k2, q2⟩ := hc 2 (by simpa using hh.2)
      split
      · rename_i hv
        simp only [Bool.and_eq_true, decide_eq_true_eq] at hv
        refine ⟨by show 128 ≤ _ * 4096 + _ * 64 + _; omega, ?_, Nat.succ_le_succ (Nat.zero_le _), by show i + 3 ≤ _; omega, fun k hk g1 g2 => ?_⟩
        · have := Nat.mod_lt (UInt8.toNat l[i]) (show 0 < 16 by omega)
          have := Nat.mod_lt ((ByteArray.mk l.toArray).get! (i + 1)).toNat (show 0 < 64 by omega)
          have := Nat.mod_lt ((ByteArray.mk l.toArray).get! (i + 2)).toNat (show 0 < 64 by omega)
          show _ * 4096 + _ * 64 + _ < _
          omega
        · have g2 : k < i + 3 := g2
          by_cases e1 : k = i + 1
          · subst e1; exact q1
          · obtain rfl : k = i + 2 := by omega
            exact q2
      · exact one
    · split
      · rename_i hh
        simp only [Bool.and_eq_true] at hh
        obtain ⟨k1, q1⟩ := hc 1 (by simpa using hh.1.1.2)
        obtain ⟨k2, q2⟩ := hc 2 (by simpa using hh.1.2)
        obtain ⟨k3, q3⟩ := hc 3 (by simpa using hh.2)
        split
        · rename_i hv
          simp only [Bool.and_eq_true, decide_eq_true_eq] at hv
          refine ⟨by show 128 ≤ _ * 262144 + _ * 4096 + _ * 64 + _; omega, ?_, Nat.succ_le_succ (Nat.zero_le _), by show i + 4 ≤ _; omega, fun k hk g1 g2 => ?_⟩
          · have hv2 := hv.2
            unfold Utf8.valid at hv2
            simp only [Bool.or_eq_true, Bool.and_eq_true, decide_eq_true_eq] at hv2
            show _ * 262144 + _ * 4096 + _ * 64 + _ < _
            omega
          · have g2 : k < i + 4 := g2
            by_cases e1 : k = i + 1
            · subst e1; exact q1
            · by_cases e2 : k = i + 2
              · subst e2; exact q2
              · obtain rfl : k = i + 3 := by omega
                exact q3
        · exact one
      · exact one
end Go.Sl
