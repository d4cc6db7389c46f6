/-
  A rune by its bytes, in plain words: no program in sight.
-/
import Derived.Test.YtokbjejbgbdkoaaGreatGModelU
set_option linter.unusedVariables false
set_option linter.unusedSimpArgs false
set_option maxRecDepth 100000
namespace Go.Mo
open Go Go.Sl
/-- A text's byte, or 0. -/
def at0 (s : List UInt8) (k : Nat) : Nat := ((s[k]?).getD 0).toNat
theorem at0_get {s : List UInt8} {k : Nat} (h : k < s.length) : at0 s k = s[k].toNat := by unfold at0; rw [List.getElem?_eq_getElem h]; rfl
theorem at0_lt {s : List UInt8} {k : Nat} : at0 s k < 256 := ((s[k]?).getD 0).toNat_lt
theorem get_at0 (s : List UInt8) (k : Nat) : ((ByteArray.mk s.toArray).get! k).toNat = at0 s k := by
  unfold at0
  congr 1
  show (s.toArray)[k]! = _
  by_cases h : k < s.length
  · simp [h]
  · simp only [List.getElem?_eq_none (Nat.le_of_not_lt h)]
    rw [getElem!_neg _ _ (by simpa using h)]
    rfl
def contB (s : List UInt8) (i k : Nat) : Bool := decide (i + k < s.length) && at0 s (i + k) / 64 == 2
theorem dec_unf (s : List UInt8) (i : Nat) : dec s i =
    if at0 s i < 128 then (at0 s i, 1)
    else if (at0 s i / 32 == 6 && contB s i 1) = true then
      if at0 s i % 32 * 64 + at0 s (i + 1) % 64 ≥ 128 then (at0 s i % 32 * 64 + at0 s (i + 1) % 64, 2) else (65533, 1)
    else if (at0 s i / 16 == 14 && contB s i 1 && contB s i 2) = true then
      if (decide (at0 s i % 16 * 4096 + at0 s (i + 1) % 64 * 64 + at0 s (i + 2) % 64 ≥ 2048) && Utf8.valid ((at0 s i % 16 * 4096 + at0 s (i + 1) % 64 * 64 + at0 s (i + 2) % 64 : Nat) : Int)) = true then (at0 s i % 16 * 4096 + at0 s (i + 1) % 64 * 64 + at0 s (i + 2) % 64, 3) else (65533, 1)
    else if (at0 s i / 8 == 30 && contB s i 1 && contB s i 2 && contB s i 3) = true then
      if (decide (at0 s i % 8 * 262144 + at0 s (i + 1) % 64 * 4096 + at0 s (i + 2) % 64 * 64 + at0 s (i + 3) % 64 ≥ 65536) && Utf8.valid ((at0 s i % 8 * 262144 + at0 s (i + 1) % 64 * 4096 + at0 s (i + 2) % 64 * 64 + at0 s (i + 3) % 64 : Nat) : Int)) = true then (at0 s i % 8 * 262144 + at0 s (i + 1) % 64 * 4096 + at0 s (i + 2) % 64 * 64 + at0 s (i + 3) % 64, 4) else (65533, 1)
    else (65533, 1) := by
  have hsz : (ByteArray.mk s.toArray).size = s.length := by show s.toArray.size = s.length; simp
  unfold dec Utf8.decode contB
  simp only [get_at0, hsz, Nat.add_zero]
  rfl
theorem at0_drop (s : List UInt8) (i k : Nat) : at0 (s.drop i) k = at0 s (i + k) := by
  unfold at0
  rw [List.getElem?_drop]
theorem contB_drop (s : List UInt8) (i k : Nat) : contB (s.drop i) 0 k = contB s i k := by
  unfold contB
  rw [at0_drop, Nat.zero_add, List.length_drop]
  congr 1
  exact decide_eq_decide.2 (by omega)
theorem dec_drop (s : List UInt8) (i : Nat) : dec (s.drop i) 0 = dec s i := by
  rw [dec_unf, dec_unf]
  simp only [contB_drop, at0_drop, Nat.zero_add, Nat.add_zero]
/-- The reference's rune: the rune and its width, or none. -/
def RuneQ (s : List UInt8) (v n : Nat) : Prop := if s = [] ∨ dec s 0 = (65533, 1) then v = 0 ∧ n = 0 else (v, n) = dec s 0
theorem rune_nil : RuneQ [] 0 0 := by unfold RuneQ; rw [if_pos (.inl rfl)]; exact ⟨rfl, rfl⟩
theorem rune_bad {s : List UInt8} (h : dec s 0 = (65533, 1)) : RuneQ s 0 0 := by unfold RuneQ; rw [if_pos (.inr h)]; exact ⟨rfl, rfl⟩
theorem rune_good {s : List UInt8} {v n : Nat} (hs : 0 < s.length) (h : dec s 0 = (v, n)) (hn : ¬ (v = 65533 ∧ n = 1)) : RuneQ s v n := by
  unfold RuneQ
  rw [if_neg (by
    rintro (g | g)
    · subst g; simp at hs
    · rw [h] at g; simp only [Prod.mk.injEq] at g; exact hn g), h]
theorem rune_one {s : List UInt8} (hs : 0 < s.length) (h : s[0].toNat < 128) : RuneQ s s[0].toNat 1 := rune_good hs (dec_low hs h) (by omega)
/-- What is read so far. -/
def vAcc (v0 : Nat) (s : List UInt8) : Nat → Nat
  | 0 => v0
  | k + 1 => 64 * vAcc v0 s k + at0 s (k + 1) - 128
def Conts (s : List UInt8) (i : Nat) : Prop := ∀ k, 1 ≤ k → k < i → 128 ≤ at0 s k ∧ at0 s k ≤ 191
/-- How the first byte tells the width. -/
def widthOf (c n v0 : Nat) : Prop := (n = 2 ∧ 194 ≤ c ∧ c < 224 ∧ v0 = c - 192) ∨ (n = 3 ∧ 224 ≤ c ∧ c < 240 ∧ v0 = c - 224) ∨ (n = 4 ∧ 240 ≤ c ∧ c < 245 ∧ v0 = c - 240)
theorem contB_yes {s : List UInt8} {i k : Nat} (hl : i + k < s.length) (h : 128 ≤ at0 s (i + k) ∧ at0 s (i + k) ≤ 191) : contB s i k = true := by
  unfold contB
  rw [Bool.and_eq_true]
  exact ⟨decide_eq_true hl, by rw [beq_iff_eq]; omega⟩
theorem contB_no {s : List UInt8} {i k : Nat} (h : ¬ (i + k < s.length ∧ 128 ≤ at0 s (i + k) ∧ at0 s (i + k) ≤ 191)) : contB s i k = false := by
  unfold contB
  rw [Bool.and_eq_false_iff]
  by_cases hl : i + k < s.length
  · right; rw [beq_eq_false_iff_ne]; omega
  · left; exact decide_eq_false hl
theorem rune_none {s : List UInt8} (h : ¬ at0 s 0 < 128) (h2 : ¬ (194 ≤ at0 s 0 ∧ at0 s 0 < 224)) (h3 : ¬ (224 ≤ at0 s 0 ∧ at0 s 0 < 240)) (h4 : ¬ (240 ≤ at0 s 0 ∧ at0 s 0 < 245)) : RuneQ s 0 0 := by
  refine rune_bad ?_
  rw [dec_unf, if_neg h]
  have hlt := at0_lt (s := s) (k := 0)
  split
  · rename_i g
    simp only [Bool.and_eq_true, beq_iff_eq] at g
    rw [if_neg]
    omega
  · split
    · rename_i g
      simp only [Bool.and_eq_true, beq_iff_eq] at g
      omega
    · split
      · rename_i g
        simp only [Bool.and_eq_true, beq_iff_eq] at g
        rw [if_neg]
        intro hh
        simp only [Bool.and_eq_true, decide_eq_true_eq, Utf8.valid, Bool.or_eq_true] at hh
        omega
      · rfl
/-- A byte behind is none that goes on: none. -/
theorem rune_cut {s : List UInt8} {n v0 k : Nat} (hw : widthOf (at0 s 0) n v0) (h1 : 1 ≤ k) (hkn : k < n) (h : ¬ (k < s.length ∧ 128 ≤ at0 s k ∧ at0 s k ≤ 191)) : RuneQ s 0 0 := by
  refine rune_bad ?_
  have hno : contB s 0 k = false := contB_no (by rw [Nat.zero_add]; exact h)
  have hlt := at0_lt (s := s) (k := 0)
  rw [dec_unf]
  rcases hw with ⟨rfl, g1, g2, -⟩ | ⟨rfl, g1, g2, -⟩ | ⟨rfl, g1, g2, -⟩
  · obtain rfl : k = 1 := by omega
    rw [if_neg (by omega), if_neg (by rw [hno]; simp), if_neg (by rw [hno]; simp), if_neg (by rw [hno]; simp)]
  · have e1 : (at0 s 0 / 32 == 6) = false := by rw [beq_eq_false_iff_ne]; omega
    have e3 : (at0 s 0 / 8 == 30) = false := by rw [beq_eq_false_iff_ne]; omega
    rw [if_neg (by omega), if_neg (by rw [e1]; simp), if_neg ?_, if_neg (by rw [e3]; simp)]
    rcases (show k = 1 ∨ k = 2 by omega) with rfl | rfl <;> rw [hno] <;> simp
  · have e1 : (at0 s 0 / 32 == 6) = false := by rw [beq_eq_false_iff_ne]; omega
    have e3 : (at0 s 0 / 16 == 14) = false := by rw [beq_eq_false_iff_ne]; omega
    rw [if_neg (by omega), if_neg (by rw [e1]; simp), if_neg (by rw [e3]; simp), if_neg ?_]
    rcases (show k = 1 ∨ k = 2 ∨ k = 3 by omega) with rfl | rfl | rfl <;> rw [hno] <;> simp
/-- All go on: the rune, if it is one. -/
theorem rune_all {s : List UInt8} {n v0 : Nat} (hw : widthOf (at0 s 0) n v0) (hl : n ≤ s.length) (hc : Conts s n) :
    ((n = 3 ∧ (vAcc v0 s (n - 1) < 2048 ∨ 55296 ≤ vAcc v0 s (n - 1) ∧ vAcc v0 s (n - 1) < 57344) ∨ n = 4 ∧ (vAcc v0 s (n - 1) < 65536 ∨ 1114111 < vAcc v0 s (n - 1))) → RuneQ s 0 0) ∧
    (¬ (n = 3 ∧ (vAcc v0 s (n - 1) < 2048 ∨ 55296 ≤ vAcc v0 s (n - 1) ∧ vAcc v0 s (n - 1) < 57344) ∨ n = 4 ∧ (vAcc v0 s (n - 1) < 65536 ∨ 1114111 < vAcc v0 s (n - 1))) → RuneQ s (vAcc v0 s (n - 1)) n) := by
  have hlt := at0_lt (s := s) (k := 0)
  have hd := dec_unf s 0
  have ok := fun k (h : 1 ≤ k ∧ k < n) => contB_yes (s := s) (i := 0) (k := k) (by omega) (by rw [Nat.zero_add]; exact hc k h.1 h.2)
  rcases hw with ⟨rfl, g1, g2, rfl⟩ | ⟨rfl, g1, g2, rfl⟩ | ⟨rfl, g1, g2, rfl⟩
  · have c1 := hc 1 (by omega) (by omega)
    have e1 : (at0 s 0 / 32 == 6) = true := by rw [beq_iff_eq]; omega
    have ev : vAcc (at0 s 0 - 192) s (2 - 1) = at0 s 0 % 32 * 64 + at0 s (0 + 1) % 64 := by show 64 * (at0 s 0 - 192) + at0 s 1 - 128 = _ + at0 s 1 % 64; omega
    rw [if_neg (by omega), if_pos (by rw [e1, ok 1 (by omega)]; rfl), if_pos (by rw [← ev]; show 64 * (at0 s 0 - 192) + at0 s 1 - 128 ≥ 128; omega)] at hd
    rw [ev]
    exact ⟨fun h => by omega, fun _ => rune_good (by omega) hd (by omega)⟩
  · have c1 := hc 1 (by omega) (by omega)
    have c2 := hc 2 (by omega) (by omega)
    have e1 : (at0 s 0 / 32 == 6) = false := by rw [beq_eq_false_iff_ne]; omega
    have e2 : (at0 s 0 / 16 == 14) = true := by rw [beq_iff_eq]; omega
    have ev : vAcc (at0 s 0 - 224) s (3 - 1) = at0 s 0 % 16 * 4096 + at0 s (0 + 1) % 64 * 64 + at0 s (0 + 2) % 64 := by
      show 64 * (64 * (at0 s 0 - 224) + at0 s 1 - 128) + at0 s 2 - 128 = _ + at0 s 1 % 64 * 64 + at0 s 2 % 64
      omega
    rw [if_neg (by omega), if_neg (by rw [e1]; simp), if_pos (by rw [e2, ok 1 (by omega), ok 2 (by omega)]; rfl), ← ev] at hd
    constructor
    · intro h
      refine rune_bad ?_
      rw [hd, if_neg]
      intro hh
      simp only [Bool.and_eq_true, decide_eq_true_eq, Utf8.valid, Bool.or_eq_true] at hh
      omega
    · intro h
      rw [if_pos (by
        simp only [Bool.and_eq_true, decide_eq_true_eq, Utf8.valid, Bool.or_eq_true]
        rw [ev] at h ⊢
        omega)] at hd
      exact rune_good (by omega) hd (by omega)
  · have c1 := hc 1 (by omega) (by omega)
    have c2 := hc 2 (by omega) (by omega)
    have c3 := hc 3 (by omega) (by omega)
    have e1 : (at0 s 0 / 32 == 6) = false := by rw [beq_eq_false_iff_ne]; omega
    have e2 : (at0 s 0 / 16 == 14) = false := by rw [beq_eq_false_iff_ne]; omega
    have e3 : (at0 s 0 / 8 == 30) = true := by rw [beq_iff_eq]; omega
    have ev : vAcc (at0 s 0 - 240) s (4 - 1) = at0 s 0 % 8 * 262144 + at0 s (0 + 1) % 64 * 4096 + at0 s (0 + 2) % 64 * 64 + at0 s (0 + 3) % 64 := by
      show 64 * (64 * (64 * (at0 s 0 - 240) + at0 s 1 - 128) + at0 s 2 - 128) + at0 s 3 - 128 = _ + at0 s 1 % 64 * 4096 + at0 s 2 % 64 * 64 + at0 s 3 % 64
      omega
    rw [if_neg (by omega), if_neg (by rw [e1]; simp), if_neg (by rw [e2]; simp), if_pos (by rw [e3, ok 1 (by omega), ok 2 (by omega), ok 3 (by omega)]; rfl), ← ev] at hd
    constructor
    · intro h
      refine rune_bad ?_
      rw [hd, if_neg]
      intro hh
      simp only [Bool.and_eq_true, decide_eq_true_eq, Utf8.valid, Bool.or_eq_true] at hh
      omega
    · intro h
      rw [if_pos (by
        simp only [Bool.and_eq_true, decide_eq_true_eq, Utf8.valid, Bool.or_eq_true]
        rw [ev] at h ⊢
        omega)] at hd
      exact rune_good (by omega) hd (by omega)
end Go.Mo
