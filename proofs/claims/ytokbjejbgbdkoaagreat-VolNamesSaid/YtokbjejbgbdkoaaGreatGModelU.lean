/-
  Words of a text, in plain words: no program in sight.
-/
import Derived.Test.YtokbjejbgbdkoaaGreatGSl16
set_option linter.unusedVariables false
set_option linter.unusedSimpArgs false
namespace Go.Mo
open Go Go.Sl
/-- The first place of a letter that q asks for, or the end. -/
structure First (q : UInt8 → Prop) (l : List UInt8) (n : Nat) : Prop where
  le : n ≤ l.length
  no : ∀ k (hk : k < l.length), k < n → ¬ q l[k]
  yes : ∀ hn : n < l.length, q l[n]
theorem First.unique {q : UInt8 → Prop} {l : List UInt8} {m n : Nat} (h : First q l m) (g : First q l n) : m = n := by
  rcases Nat.lt_trichotomy m n with h1 | h1 | h1
  · exact absurd (h.yes (by have := g.le; omega)) (g.no m (by have := g.le; omega) h1)
  · exact h1
  · exact absurd (g.yes (by have := h.le; omega)) (h.no n (by have := h.le; omega) h1)
def blankL (c : UInt8) : Prop := c.toNat = 32 ∨ c.toNat = 9
def stopL (c : UInt8) : Prop := (c.toNat = 32 ∨ c.toNat = 9) ∨ c.toNat = 10
/-- No such letter ahead of this place. -/
def Clear (q : UInt8 → Prop) (l : List UInt8) (n : Nat) : Prop := ∀ k (hk : k < l.length), k < n → ¬ q l[k]
theorem clear_zero {q : UInt8 → Prop} {l : List UInt8} : Clear q l 0 := fun _ _ h => absurd h (Nat.not_lt_zero _)
theorem clear_one {q : UInt8 → Prop} {l : List UInt8} {n : Nat} (h : Clear q l n) (hn : n < l.length) (h1 : ¬ q l[n]) : Clear q l (n + 1) := fun k hk hkn => by
  by_cases e : k = n
  · subst e; exact h1
  · exact h k hk (by omega)
theorem first_end {q : UInt8 → Prop} {l : List UInt8} (h : Clear q l l.length) : First q l l.length := ⟨Nat.le_refl _, h, fun g => absurd g (Nat.lt_irrefl _)⟩
theorem first_here {q : UInt8 → Prop} {l : List UInt8} {n : Nat} (h : Clear q l n) (hn : n < l.length) (h1 : q l[n]) : First q l n := ⟨by omega, h, fun _ => h1⟩
/-- A rune that is one of these small letters is that letter. -/
theorem dec_is {l : List UInt8} {i c : Nat} (hi : i < l.length) (hc : c < 128) : (dec l i).1 = c ↔ l[i].toNat = c := by
  by_cases h : l[i].toNat < 128
  · rw [dec_low hi h]
  · have := (dec_high hi h).1
    constructor
    · intro g; omega
    · intro g; omega
theorem dec_lt {l : List UInt8} {i : Nat} (hi : i < l.length) : (dec l i).1 < 1114112 := by
  by_cases h : l[i].toNat < 128
  · rw [dec_low hi h]; show l[i].toNat < _; omega
  · exact (dec_high hi h).2.1
theorem dec_step {l : List UInt8} {i : Nat} (hi : i < l.length) : 1 ≤ (dec l i).2 ∧ i + (dec l i).2 ≤ l.length := by
  by_cases h : l[i].toNat < 128
  · rw [dec_low hi h]; exact ⟨Nat.le_refl _, hi⟩
  · have := dec_high hi h; exact ⟨this.2.2.1, this.2.2.2.1⟩
/-- One rune on: none of the small letters. -/
theorem clear_dec {q : UInt8 → Prop} {l : List UInt8} {i : Nat} (h : Clear q l i) (hi : i < l.length) (hq : ∀ c, q c → c.toNat < 128) (h1 : ¬ q l[i]) : Clear q l (i + (dec l i).2) := by
  by_cases h2 : l[i].toNat < 128
  · rw [dec_low hi h2]; exact clear_one h hi h1
  · intro k hk hki hqk
    by_cases e : k = i
    · subst e; exact h1 hqk
    · by_cases g : k < i
      · exact h k hk g hqk
      · have := (dec_high hi h2).2.2.2.2 k hk (by omega) hki
        have := hq _ hqk
        omega
/-- One blank on. -/
theorem clear_blank {l : List UInt8} {i : Nat} (h : Clear (fun c => ¬ blankL c) l i) (hi : i < l.length) (h1 : blankL l[i]) : Clear (fun c => ¬ blankL c) l (i + (dec l i).2) := by
  have h2 : l[i].toNat < 128 := by unfold blankL at h1; omega
  rw [dec_low hi h2]
  exact clear_one h hi (fun g => g h1)
theorem stop_small : ∀ c, stopL c → c.toNat < 128 := fun c h => by unfold stopL at h; omega
/-- The first word, and the rest. -/
def WordQ (l : List UInt8) (a b : List UInt8) : Prop := ∃ f t, First (fun c => ¬ blankL c) l f ∧ First stopL (l.drop f) t ∧ a = (l.drop f).take t ∧ b = l.drop (f + t)
theorem WordQ.unique {l a b a' b' : List UInt8} (h : WordQ l a b) (g : WordQ l a' b') : a = a' ∧ b = b' := by
  obtain ⟨f, t, h1, h2, rfl, rfl⟩ := h
  obtain ⟨f', t', g1, g2, rfl, rfl⟩ := g
  obtain rfl := h1.unique g1
  obtain rfl := h2.unique g2
  exact ⟨rfl, rfl⟩
end Go.Mo
