/-
  Words of a text, in plain words: no program in sight.
-/
import Derived.Test.YtbbgajjonodlfaaGreatGSl12
set_option linter.unusedVariables false
set_option linter.unusedSimpArgs false
namespace Go.Mo
open Go Go.Sl
/-- The first place of a letter that q asks for, or the end. -/
structure First (q : UInt8 → Prop) (l : List UInt8) (n : Nat) : Prop where
  le : n ≤ l.length
  no : ∀ k (hk : k < l.length), k < n → ¬ q l[k]
  yes : ∀ hn : n < l.length, q l[n]
theorem First.unique {q : UInt8 → Prop} {l : List UInt8} {m n : Nat} (h : First q l m) (g : First q l n) : m = n := by
  rcases Nat.lt_trichotomy m n with h1 | h1 | h1
  · exact absurd (h.yes (by have := g.le; omega)) (g.no m (by have := g.le; omega) h1)
  · exact h1
  · exact absurd (g.yes (by have := h.le; omega)) (h.no n (by have := h.le; omega) h1)
def blankL (c : UInt8) : Prop := c.toNat = 32 ∨ c.toNat = 9
def stopL (c : UInt8) : Prop := (c.toNat = 32 ∨ c.toNat = 9) ∨ c.toNat = 10
theorem dec_step {l : List UInt8} {i : Nat} (hi : i < l.length) : 1 ≤ (dec l i).2 ∧ i + (dec l i).2 ≤ l.length := by
  by_cases h : l[i].toNat < 128
  · rw [dec_low hi h]; exact ⟨Nat.le_refl _, hi⟩
  · have := dec_high hi h; exact ⟨this.2.2.1, this.2.2.2.1⟩
/-- The first word, and the rest. -/
def WordQ (l : List UInt8) (a b : List UInt8) : Prop := ∃ f t, First (fun c => ¬ blankL c) l f ∧ First stopL (l.drop f) t ∧ a = (l.drop f).take t ∧ b = l.drop (f + t)
theorem WordQ.unique {l a b a' b' : List UInt8} (h : WordQ l a b) (g : WordQ l a' b') : a = a' ∧ b = b' := by
  obtain ⟨f, t, h1, h2, rfl, rfl⟩ := h
  obtain ⟨f', t', g1, g2, rfl, rfl⟩ := g
  obtain rfl := h1.unique g1
  obtain rfl := h2.unique g2
  exact ⟨rfl, rfl⟩
end Go.Mo
set_option maxRecDepth 100000
namespace Go.Mo
open Go Go.Sl
/-- A text's byte, or 0. -/
def at0 (s : List UInt8) (k : Nat) : Nat := ((s[k]?).getD 0).toNat
theorem at0_get {s : List UInt8} {k : Nat} (h : k < s.length) : at0 s k = s[k].toNat := by unfold at0; rw [List.getElem?_eq_getElem h]; rfl
theorem at0_lt {s : List UInt8} {k : Nat} : at0 s k < 256 := ((s[k]?).getD 0).toNat_lt
theorem get_at0 (s : List UInt8) (k : Nat) : ((ByteArray.mk s.toArray).get! k).toNat = at0 s k := by
  unfold at0
  congr 1
  show (s.toArray)[k]! = _
  by_cases h : k < s.length
  · simp [h]
  · simp only [List.getElem?_eq_none (Nat.le_of_not_lt h)]
    rw [getElem!_neg _ _ (by simpa using h)]
    rfl
def contB (s : List UInt8) (i k : Nat) : Bool := decide (i + k < s.length) && at0 s (i + k) / 64 == 2
theorem dec_unf (s : List UInt8) (i : Nat) : dec s i =
    if at0 s i < 128 then (at0 s i, 1)
    else if (at0 s i / 32 == 6 && contB s i 1) = true then
      if at0 s i % 32 * 64 + at0 s (i + 1) % 64 ≥ 128 then (at0 s i % 32 * 64 + at0 s (i + 1) % 64, 2) else (65533, 1)
    else if (at0 s i / 16 == 14 && contB s i 1 && contB s i 2) = true then
      if (decide (at0 s i % 16 * 4096 + at0 s (i + 1) % 64 * 64 + at0 s (i + 2) % 64 ≥ 2048) && Utf8.valid ((at0 s i % 16 * 4096 + at0 s (i + 1) % 64 * 64 + at0 s (i + 2) % 64 : Nat) : Int)) = true then (at0 s i % 16 * 4096 + at0 s (i + 1) % 64 * 64 + at0 s (i + 2) % 64, 3) else (65533, 1)
    else if (at0 s i / 8 == 30 && contB s i 1 && contB s i 2 && contB s i 3) = true then
      if (decide (at0 s i % 8 * 262144 + at0 s (i + 1) % 64 * 4096 + at0 s (i + 2) % 64 * 64 + at0 s (i + 3) % 64 ≥ 65536) && Utf8.valid ((at0 s i % 8 * 262144 + at0 s (i + 1) % 64 * 4096 + at0 s (i + 2) % 64 * 64 + at0 s (i + 3) % 64 : Nat) : Int)) = true then (at0 s i % 8 * 262144 + at0 s (i + 1) % 64 * 4096 + at0 s (i + 2) % 64 * 64 + at0 s (i + 3) % 64, 4) else (65533, 1)
    else (65533, 1) := by
  have hsz : (ByteArray.mk s.toArray).size = s.length := by show s.toArray.size = s.length; simp
  unfold dec Utf8.decode contB
  simp only [get_at0, hsz, Nat.add_zero]
  rfl
theorem at0_drop (s : List UInt8) (i k : Nat) : at0 (s.drop i) k = at0 s (i + k) := by
  unfold at0
  rw [List.getElem?_drop]
theorem contB_drop (s : List UInt8) (i k : Nat) : contB (s.drop i) 0 k = contB s i k := by
  unfold contB
  rw [at0_drop, Nat.zero_add, List.length_drop]
  congr 1
  exact decide_eq_decide.2 (by omega)
theorem dec_drop (s : List UInt8) (i : Nat) : dec (s.drop i) 0 = dec s i := by
  rw [dec_unf, dec_unf]
  simp only [contB_drop, at0_drop, Nat.zero_add, Nat.add_zero]
/-- The reference's rune: the rune and its width, or none. -/
def RuneQ (s : List UInt8) (v n : Nat) : Prop := if s = [] ∨ dec s 0 = (65533, 1) then v = 0 ∧ n = 0 else (v, n) = dec s 0
theorem rune_nil : RuneQ [] 0 0 := by unfold RuneQ; rw [if_pos (.inl rfl)]; exact ⟨rfl, rfl⟩
theorem rune_bad {s : List UInt8} (h : dec s 0 = (65533, 1)) : RuneQ s 0 0 := by unfold RuneQ; rw [if_pos (.inr h)]; exact ⟨rfl, rfl⟩
theorem rune_good {s : List UInt8} {v n : Nat} (hs : 0 < s.length) (h : dec s 0 = (v, n)) (hn : ¬ (v = 65533 ∧ n = 1)) : RuneQ s v n := by
  unfold RuneQ
  rw [if_neg (by
    rintro (g | g)
    · subst g; simp at hs
    · rw [h] at g; simp only [Prod.mk.injEq] at g; exact hn g), h]
theorem rune_one {s : List UInt8} (hs : 0 < s.length) (h : s[0].toNat < 128) : RuneQ s s[0].toNat 1 := rune_good hs (dec_low hs h) (by omega)
/-- What is read so far. -/
def vAcc (v0 : Nat) (s : List UInt8) : Nat → Nat
  | 0 => v0
  | k + 1 => 64 * vAcc v0 s k + at0 s (k + 1) - 128
def Conts (s : List UInt8) (i : Nat) : Prop := ∀ k, 1 ≤ k → k < i → 128 ≤ at0 s k ∧ at0 s k ≤ 191
/-- How the first byte tells the width. -/
def widthOf (c n v0 : Nat) : Prop := (n = 2 ∧ 194 ≤ c ∧ c < 224 ∧ v0 = c - 192) ∨ (n = 3 ∧ 224 ≤ c ∧ c < 240 ∧ v0 = c - 224) ∨ (n = 4 ∧ 240 ≤ c ∧ c < 245 ∧ v0 = c - 240)
theorem contB_yes {s : List UInt8} {i k : Nat} (hl : i + k < s.length) (h : 128 ≤ at0 s (i + k) ∧ at0 s (i + k) ≤ 191) : contB s i k = true := by
  unfold contB
  rw [Bool.and_eq_true]
  exact ⟨decide_eq_true hl, by rw [beq_iff_eq]; omega⟩
theorem contB_no {s : List UInt8} {i k : Nat} (h : ¬ (i + k < s.length ∧ 128 ≤ at0 s (i + k) ∧ at0 s (i + k) ≤ 191)) : contB s i k = false := by
  unfold contB
  rw [Bool.and_eq_false_iff]
  by_cases hl : i + k < s.length
  · right; rw [beq_eq_false_iff_ne]; omega
  · left; exact decide_eq_false hl
theorem rune_none {s : List UInt8} (h : ¬ at0 s 0 < 128) (h2 : ¬ (194 ≤ at0 s 0 ∧ at0 s 0 < 224)) (h3 : ¬ (224 ≤ at0 s 0 ∧ at0 s 0 < 240)) (h4 : ¬ (240 ≤ at0 s 0 ∧ at0 s 0 < 245)) : RuneQ s 0 0 := by
  refine rune_bad ?_
  rw [dec_unf, if_neg h]
  have hlt := at0_lt (s := s) (k := 0)
  split
  · rename_i g
    simp only [Bool.and_eq_true, beq_iff_eq] at g
    rw [if_neg]
    omega
  · split
    · rename_i g
      simp only [Bool.and_eq_true, beq_iff_eq] at g
      omega
    · split
      · rename_i g
        simp only [Bool.and_eq_true, beq_iff_eq] at g
        rw [if_neg]
        intro hh
        simp only [Bool.and_eq_true, decide_eq_true_eq, Utf8.valid, Bool.or_eq_true] at hh
        omega
      · rfl
/-- A byte behind is none that goes on: none. -/
theorem rune_cut {s : List UInt8} {n v0 k : Nat} (hw : widthOf (at0 s 0) n v0) (h1 : 1 ≤ k) (hkn : k < n) (h : ¬ (k < s.length ∧ 128 ≤ at0 s k ∧ at0 s k ≤ 191)) : RuneQ s 0 0 := by
  refine rune_bad ?_
  have hno : contB s 0 k = false := contB_no (by rw [Nat.zero_add]; exact h)
  have hlt := at0_lt (s := s) (k := 0)
  rw [dec_unf]
  rcases hw with ⟨rfl, g1, g2, -⟩ | ⟨rfl, g1, g2, -⟩ | ⟨rfl, g1, g2, -⟩
  · obtain rfl : k = 1 := by omega
    rw [if_neg (by omega), if_neg (by rw [hno]; simp), if_neg (by rw [hno]; simp), if_neg (by rw [hno]; simp)]
  · have e1 : (at0 s 0 / 32 == 6) = false := by rw [beq_eq_false_iff_ne]; omega
    have e3 : (at0 s 0 / 8 == 30) = false := by rw [beq_eq_false_iff_ne]; omega
    rw [if_neg (by omega), if_neg (by rw [e1]; simp), if_neg ?_, if_neg (by rw [e3]; simp)]
    rcases (show k = 1 ∨ k = 2 by omega) with rfl | rfl <;> rw [hno] <;> simp
  · have e1 : (at0 s 0 / 32 == 6) = false := by rw [beq_eq_false_iff_ne]; omega
    have e3 : (at0 s 0 / 16 == 14) = false := by rw [beq_eq_false_iff_ne]; omega
    rw [if_neg (by omega), if_neg (by rw [e1]; simp), if_neg (by rw [e3]; simp), if_neg ?_]
    rcases (show k = 1 ∨ k = 2 ∨ k = 3 by omega) with rfl | rfl | rfl <;> rw [hno] <;> simp
/-- All go on: the rune, if it is one. -/
theorem rune_all {s : List UInt8} {n v0 : Nat} (hw : widthOf (at0 s 0) n v0) (hl : n ≤ s.length) (hc : Conts s n) :
    ((n = 3 ∧ (vAcc v0 s (n - 1) < 2048 ∨ 55296 ≤ vAcc v0 s (n - 1) ∧ vAcc v0 s (n - 1) < 57344) ∨ n = 4 ∧ (vAcc v0 s (n - 1) < 65536 ∨ 1114111 < vAcc v0 s (n - 1))) → RuneQ s 0 0) ∧
    (¬ (n = 3 ∧ (vAcc v0 s (n - 1) < 2048 ∨ 55296 ≤ vAcc v0 s (n - 1) ∧ vAcc v0 s (n - 1) < 57344) ∨ n = 4 ∧ (vAcc v0 s (n - 1) < 65536 ∨ 1114111 < vAcc v0 s (n - 1))) → RuneQ s (vAcc v0 s (n - 1)) n) := by
  have hlt := at0_lt (s := s) (k := 0)
  have hd := dec_unf s 0
  have ok := fun k (h : 1 ≤ k ∧ k < n) => contB_yes (s := s) (i := 0) (k := k) (by omega) (by rw [Nat.zero_add]; exact hc k h.1 h.2)
  rcases hw with ⟨rfl, g1, g2, rfl⟩ | ⟨rfl, g1, g2, rfl⟩ | ⟨rfl, g1, g2, rfl⟩
  · have c1 := hc 1 (by omega) (by omega)
    have e1 : (at0 s 0 / 32 == 6) = true := by rw [beq_iff_eq]; omega
    have ev : vAcc (at0 s 0 - 192) s (2 - 1) = at0 s 0 % 32 * 64 + at0 s (0 + 1) % 64 := by show 64 * (at0 s 0 - 192) + at0 s 1 - 128 = _ + at0 s 1 % 64; omega
    rw [if_neg (by omega), if_pos (by rw [e1, ok 1 (by omega)]; rfl), if_pos (by rw [← ev]; show 64 * (at0 s 0 - 192) + at0 s 1 - 128 ≥ 128; omega)] at hd
    rw [ev]
    exact ⟨fun h => by omega, fun _ => rune_good (by omega) hd (by omega)⟩
  · have c1 := hc 1 (by omega) (by omega)
    have c2 := hc 2 (by omega) (by omega)
    have e1 : (at0 s 0 / 32 == 6) = false := by rw [beq_eq_false_iff_ne]; omega
    have e2 : (at0 s 0 / 16 == 14) = true := by rw [beq_iff_eq]; omega
    have ev : vAcc (at0 s 0 - 224) s (3 - 1) = at0 s 0 % 16 * 4096 + at0 s (0 + 1) % 64 * 64 + at0 s (0 + 2) % 64 := by
      show 64 * (64 * (at0 s 0 - 224) + at0 s 1 - 128) + at0 s 2 - 128 = _ + at0 s 1 % 64 * 64 + at0 s 2 % 64
      omega
    rw [if_neg (by omega), if_neg (by rw [e1]; simp), if_pos (by rw [e2, ok 1 (by omega), ok 2 (by omega)]; rfl), ← ev] at hd
    constructor
    · intro h
      refine rune_bad ?_
      rw [hd, if_neg]
      intro hh
      simp only [Bool.and_eq_true, decide_eq_true_eq, Utf8.valid, Bool.or_eq_true] at hh
      omega
    · intro h
      rw [if_pos (by
        simp only [Bool.and_eq_true, decide_eq_true_eq, Utf8.valid, Bool.or_eq_true]
        rw [ev] at h ⊢
        omega)] at hd
      exact rune_good (by omega) hd (by omega)
  · have c1 := hc 1 (by omega) (by omega)
    have c2 := hc 2 (by omega) (by omega)
    have c3 := hc 3 (by omega) (by omega)
    have e1 : (at0 s 0 / 32 == 6) = false := by rw [beq_eq_false_iff_ne]; omega
    have e2 : (at0 s 0 / 16 == 14) = false := by rw [beq_eq_false_iff_ne]; omega
    have e3 : (at0 s 0 / 8 == 30) = true := by rw [beq_iff_eq]; omega
    have ev : vAcc (at0 s 0 - 240) s (4 - 1) = at0 s 0 % 8 * 262144 + at0 s (0 + 1) % 64 * 4096 + at0 s (0 + 2) % 64 * 64 + at0 s (0 + 3) % 64 := by
      show 64 * (64 * (64 * (at0 s 0 - 240) + at0 s 1 - 128) + at0 s 2 - 128) + at0 s 3 - 128 = _ + at0 s 1 % 64 * 4096 + at0 s 2 % 64 * 64 + at0 s 3 % 64
      omega
    rw [if_neg (by omega), if_neg (by rw [e1]; simp), if_neg (by rw [e2]; simp), if_pos (by rw [e3, ok 1 (by omega), ok 2 (by omega), ok 3 (by omega)]; rfl), ← ev] at hd
    constructor
    · intro h
      refine rune_bad ?_
      rw [hd, if_neg]
      intro hh
      simp only [Bool.and_eq_true, decide_eq_true_eq, Utf8.valid, Bool.or_eq_true] at hh
      omega
    · intro h
      rw [if_pos (by
        simp only [Bool.and_eq_true, decide_eq_true_eq, Utf8.valid, Bool.or_eq_true]
        rw [ev] at h ⊢
        omega)] at hd
      exact rune_good (by omega) hd (by omega)
end Go.Mo
set_option maxRecDepth 100000
namespace Go.Mo
open Go Go.Sl
/-- The place of the k-th rune. -/
def posR (s : List UInt8) : Nat → Nat
  | 0 => 0
  | k + 1 => posR s k + (dec s (posR s k)).2
def okR (s : List UInt8) (p : Nat) : Prop := 33 ≤ (dec s p).1 ∧ (dec s p).1 ≠ 127 ∧ dec s p ≠ (65533, 1)
/-- k runes are there, and all may be. -/
def RunsR (s : List UInt8) (k : Nat) : Prop := ∀ j, j < k → posR s j < s.length ∧ okR s (posR s j)
theorem runs_zero {s : List UInt8} : RunsR s 0 := fun _ h => absurd h (Nat.not_lt_zero _)
theorem runs_step {s : List UInt8} {k : Nat} (h : RunsR s k) (hp : posR s k < s.length) (ho : okR s (posR s k)) : RunsR s (k + 1) := fun j hj => by
  by_cases e : j = k
  · subst e; exact ⟨hp, ho⟩
  · exact h j (by omega)
def GoodQ (s : List UInt8) (r : Bool) : Prop :=
  (∃ k, RunsR s k ∧ posR s k < s.length ∧ ¬ okR s (posR s k)) ∧ r = false ∨ (∃ k, RunsR s k ∧ posR s k = s.length) ∧ r = decide (1 ≤ s.length ∧ s.length ≤ 16)
theorem good_not {s : List UInt8} {k j : Nat} (h : RunsR s k) (hp : posR s k < s.length) (ho : ¬ okR s (posR s k)) (g : RunsR s j) (gp : posR s j = s.length) : False := by
  rcases Nat.lt_trichotomy k j with h1 | h1 | h1
  · exact ho (g k h1).2
  · subst h1; omega
  · have := (h j h1).1; omega
theorem GoodQ.unique {s : List UInt8} {a b : Bool} (h : GoodQ s a) (g : GoodQ s b) : a = b := by
  rcases h with ⟨⟨k, h1, h2, h3⟩, rfl⟩ | ⟨⟨k, h1, h2⟩, rfl⟩ <;> rcases g with ⟨⟨j, g1, g2, g3⟩, rfl⟩ | ⟨⟨j, g1, g2⟩, rfl⟩
  · rfl
  · exact (good_not h1 h2 h3 g1 g2).elim
  · exact (good_not g1 g2 g3 h1 h2).elim
  · rfl
def FFFD : List UInt8 := [239, 191, 189]
theorem take3 {s : List UInt8} {p : Nat} (h : p + 2 < s.length) : (s.drop p).take 3 = [s[p], s[p + 1], s[p + 2]] := by
  rw [List.drop_eq_getElem_cons (by omega), List.take_succ_cons, List.drop_eq_getElem_cons (by omega), List.take_succ_cons, List.drop_eq_getElem_cons (by omega), List.take_succ_cons, List.take_zero]
theorem pre_yes {s : List UInt8} {p : Nat} (h : 3 ≤ (s.drop p).length ∧ (s.drop p).take 3 = FFFD) : dec s p = (65533, 3) := by
  rw [List.length_drop] at h
  have h3 := take3 (s := s) (p := p) (by omega)
  rw [h.2] at h3
  unfold FFFD at h3
  injection h3 with e0 h3
  injection h3 with e1 h3
  injection h3 with e2 h3
  have a0 : at0 s p = 239 := by rw [at0_get (by omega), ← e0]; rfl
  have a1 : at0 s (p + 1) = 191 := by rw [at0_get (by omega), ← e1]; rfl
  have a2 : at0 s (p + 2) = 189 := by rw [at0_get (by omega), ← e2]; rfl
  have c1 : contB s p 1 = true := contB_yes (by omega) (by omega)
  have c2 : contB s p 2 = true := contB_yes (by omega) (by omega)
  rw [dec_unf, a0, a1, a2, c1, c2, if_neg (by decide), if_neg (by decide), if_pos (by decide), if_pos (by decide)]
theorem byte_is {s : List UInt8} {k : Nat} {c : UInt8} (h : k < s.length) (e : at0 s k = c.toNat) : s[k] = c := UInt8.toNat_inj.1 (by rw [← at0_get h]; exact e)
theorem pre_no {s : List UInt8} {p : Nat} (hp : p < s.length) (hv : (dec s p).1 = 65533) (hn : dec s p ≠ (65533, 1)) : 3 ≤ (s.drop p).length ∧ (s.drop p).take 3 = FFFD := by
  have hlt := at0_lt (s := s) (k := p)
  rw [dec_unf] at hv hn
  split at hv
  · have hv : at0 s p = 65533 := hv
    omega
  · rename_i g0
    rw [if_neg g0] at hn
    split at hv
    · rename_i g1
      rw [if_pos g1] at hn
      simp only [Bool.and_eq_true, beq_iff_eq] at g1
      split at hv
      · have hv : at0 s p % 32 * 64 + at0 s (p + 1) % 64 = 65533 := hv
        omega
      · rename_i g2
        rw [if_neg g2] at hn
        exact absurd rfl hn
    · rename_i g1
      rw [if_neg g1] at hn
      split at hv
      · rename_i g2
        rw [if_pos g2] at hn
        simp only [Bool.and_eq_true, beq_iff_eq] at g2
        split at hv
        · have hv : at0 s p % 16 * 4096 + at0 s (p + 1) % 64 * 64 + at0 s (p + 2) % 64 = 65533 := hv
          obtain ⟨⟨k0, k1⟩, k2⟩ := g2
          unfold contB at k1 k2
          simp only [Bool.and_eq_true, beq_iff_eq, decide_eq_true_eq] at k1 k2
          rw [List.length_drop]
          refine ⟨by omega, ?_⟩
          rw [take3 (by omega), byte_is (c := 239) (by omega) (by show _ = 239; omega), byte_is (c := 191) (by omega) (by show _ = 191; omega), byte_is (c := 189) (by omega) (by show _ = 189; omega)]
          rfl
        · rename_i g3
          rw [if_neg g3] at hn
          exact absurd rfl hn
      · rename_i g2
        rw [if_neg g2] at hn
        split at hv
        · rename_i g3
          rw [if_pos g3] at hn
          split at hv
          · rename_i g4
            simp only [Bool.and_eq_true, decide_eq_true_eq] at g4
            have hv : at0 s p % 8 * 262144 + at0 s (p + 1) % 64 * 4096 + at0 s (p + 2) % 64 * 64 + at0 s (p + 3) % 64 = 65533 := hv
            omega
          · rename_i g4
            rw [if_neg g4] at hn
            exact absurd rfl hn
        · rename_i g3
          rw [if_neg g3] at hn
          exact absurd rfl hn
theorem posR_le {s : List UInt8} : ∀ {k : Nat}, RunsR s k → posR s k ≤ s.length
  | 0, _ => Nat.zero_le _
  | k + 1, h => (dec_step (h k (Nat.lt_succ_self k)).1).2
/-- The reference's rune at a place. -/
theorem rune_at {s : List UInt8} {p v n : Nat} (hp : p < s.length) (h : RuneQ (s.drop p) v n) : (n = 0 ∧ ¬ okR s p) ∨ ((v, n) = dec s p ∧ dec s p ≠ (65533, 1)) := by
  unfold RuneQ at h
  rw [dec_drop] at h
  split at h
  · rename_i g
    refine .inl ⟨h.2, fun ho => ?_⟩
    rcases g with g | g
    · have := congrArg List.length g
      rw [List.length_drop] at this
      simp at this
      omega
    · exact ho.2.2 g
  · rename_i g
    exact .inr ⟨h, fun e => g (.inr e)⟩
end Go.Mo
