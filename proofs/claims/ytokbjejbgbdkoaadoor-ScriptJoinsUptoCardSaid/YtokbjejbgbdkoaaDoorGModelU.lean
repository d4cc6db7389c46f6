/-
  Words of a text, in plain words: no program in sight.
-/
import Derived.Test.YtokbjejbgbdkoaaDoorGSl16
import Derived.Lib.MapLaws
import Derived.Lib.Bytealg
import Derived.Lib.IndexLaws
set_option linter.unusedVariables false
set_option linter.unusedSimpArgs false
namespace Go.Mo
open Go Go.Sl
/-- The first place of a letter that q asks for, or the end. -/
structure First (q : UInt8 → Prop) (l : List UInt8) (n : Nat) : Prop where
  le : n ≤ l.length
  no : ∀ k (hk : k < l.length), k < n → ¬ q l[k]
  yes : ∀ hn : n < l.length, q l[n]
theorem First.unique {q : UInt8 → Prop} {l : List UInt8} {m n : Nat} (h : First q l m) (g : First q l n) : m = n := by
  rcases Nat.lt_trichotomy m n with h1 | h1 | h1
  · exact absurd (h.yes (by have := g.le; omega)) (g.no m (by have := g.le; omega) h1)
  · exact h1
  · exact absurd (g.yes (by have := h.le; omega)) (h.no n (by have := h.le; omega) h1)
def blankL (c : UInt8) : Prop := c.toNat = 32 ∨ c.toNat = 9
def stopL (c : UInt8) : Prop := (c.toNat = 32 ∨ c.toNat = 9) ∨ c.toNat = 10
/-- No such letter ahead of this place. -/
def Clear (q : UInt8 → Prop) (l : List UInt8) (n : Nat) : Prop := ∀ k (hk : k < l.length), k < n → ¬ q l[k]
theorem clear_zero {q : UInt8 → Prop} {l : List UInt8} : Clear q l 0 := fun _ _ h => absurd h (Nat.not_lt_zero _)
theorem clear_one {q : UInt8 → Prop} {l : List UInt8} {n : Nat} (h : Clear q l n) (hn : n < l.length) (h1 : ¬ q l[n]) : Clear q l (n + 1) := fun k hk hkn => by
  by_cases e : k = n
  · subst e; exact h1
  · exact h k hk (by omega)
theorem first_end {q : UInt8 → Prop} {l : List UInt8} (h : Clear q l l.length) : First q l l.length := ⟨Nat.le_refl _, h, fun g => absurd g (Nat.lt_irrefl _)⟩
theorem first_here {q : UInt8 → Prop} {l : List UInt8} {n : Nat} (h : Clear q l n) (hn : n < l.length) (h1 : q l[n]) : First q l n := ⟨by omega, h, fun _ => h1⟩
/-- A rune that is one of these small letters is that letter. -/
theorem dec_is {l : List UInt8} {i c : Nat} (hi : i < l.length) (hc : c < 128) : (dec l i).1 = c ↔ l[i].toNat = c := by
  by_cases h : l[i].toNat < 128
  · rw [dec_low hi h]
  · have := (dec_high hi h).1
    constructor
    · intro g; omega
    · intro g; omega
theorem dec_lt {l : List UInt8} {i : Nat} (hi : i < l.length) : (dec l i).1 < 1114112 := by
  by_cases h : l[i].toNat < 128
  · rw [dec_low hi h]; show l[i].toNat < _; omega
  · exact (dec_high hi h).2.1
theorem dec_step {l : List UInt8} {i : Nat} (hi : i < l.length) : 1 ≤ (dec l i).2 ∧ i + (dec l i).2 ≤ l.length := by
  by_cases h : l[i].toNat < 128
  · rw [dec_low hi h]; exact ⟨Nat.le_refl _, hi⟩
  · have := dec_high hi h; exact ⟨this.2.2.1, this.2.2.2.1⟩
/-- One rune on: none of the small letters. -/
theorem clear_dec {q : UInt8 → Prop} {l : List UInt8} {i : Nat} (h : Clear q l i) (hi : i < l.length) (hq : ∀ c, q c → c.toNat < 128) (h1 : ¬ q l[i]) : Clear q l (i + (dec l i).2) := by
  by_cases h2 : l[i].toNat < 128
  · rw [dec_low hi h2]; exact clear_one h hi h1
  · intro k hk hki hqk
    by_cases e : k = i
    · subst e; exact h1 hqk
    · by_cases g : k < i
      · exact h k hk g hqk
      · have := (dec_high hi h2).2.2.2.2 k hk (by omega) hki
        have := hq _ hqk
        omega
/-- One blank on. -/
theorem clear_blank {l : List UInt8} {i : Nat} (h : Clear (fun c => ¬ blankL c) l i) (hi : i < l.length) (h1 : blankL l[i]) : Clear (fun c => ¬ blankL c) l (i + (dec l i).2) := by
  have h2 : l[i].toNat < 128 := by unfold blankL at h1; omega
  rw [dec_low hi h2]
  exact clear_one h hi (fun g => g h1)
theorem stop_small : ∀ c, stopL c → c.toNat < 128 := fun c h => by unfold stopL at h; omega
/-- The first word, and the rest. -/
def WordQ (l : List UInt8) (a b : List UInt8) : Prop := ∃ f t, First (fun c => ¬ blankL c) l f ∧ First stopL (l.drop f) t ∧ a = (l.drop f).take t ∧ b = l.drop (f + t)
theorem WordQ.unique {l a b a' b' : List UInt8} (h : WordQ l a b) (g : WordQ l a' b') : a = a' ∧ b = b' := by
  obtain ⟨f, t, h1, h2, rfl, rfl⟩ := h
  obtain ⟨f', t', g1, g2, rfl, rfl⟩ := g
  obtain rfl := h1.unique g1
  obtain rfl := h2.unique g2
  exact ⟨rfl, rfl⟩
end Go.Mo
set_option maxRecDepth 100000
namespace Go.Mo
open Go Go.Sl
/-- A text's byte, or 0. -/
def at0 (s : List UInt8) (k : Nat) : Nat := ((s[k]?).getD 0).toNat
theorem at0_get {s : List UInt8} {k : Nat} (h : k < s.length) : at0 s k = s[k].toNat := by unfold at0; rw [List.getElem?_eq_getElem h]; rfl
theorem at0_lt {s : List UInt8} {k : Nat} : at0 s k < 256 := ((s[k]?).getD 0).toNat_lt
theorem get_at0 (s : List UInt8) (k : Nat) : ((ByteArray.mk s.toArray).get! k).toNat = at0 s k := by
  unfold at0
  congr 1
  show (s.toArray)[k]! = _
  by_cases h : k < s.length
  · simp [h]
  · simp only [List.getElem?_eq_none (Nat.le_of_not_lt h)]
    rw [getElem!_neg _ _ (by simpa using h)]
    rfl
def contB (s : List UInt8) (i k : Nat) : Bool := decide (i + k < s.length) && at0 s (i + k) / 64 == 2
theorem dec_unf (s : List UInt8) (i : Nat) : dec s i =
    if at0 s i < 128 then (at0 s i, 1)
    else if (at0 s i / 32 == 6 && contB s i 1) = true then
      if at0 s i % 32 * 64 + at0 s (i + 1) % 64 ≥ 128 then (at0 s i % 32 * 64 + at0 s (i + 1) % 64, 2) else (65533, 1)
    else if (at0 s i / 16 == 14 && contB s i 1 && contB s i 2) = true then
      if (decide (at0 s i % 16 * 4096 + at0 s (i + 1) % 64 * 64 + at0 s (i + 2) % 64 ≥ 2048) && Utf8.valid ((at0 s i % 16 * 4096 + at0 s (i + 1) % 64 * 64 + at0 s (i + 2) % 64 : Nat) : Int)) = true then (at0 s i % 16 * 4096 + at0 s (i + 1) % 64 * 64 + at0 s (i + 2) % 64, 3) else (65533, 1)
    else if (at0 s i / 8 == 30 && contB s i 1 && contB s i 2 && contB s i 3) = true then
      if (decide (at0 s i % 8 * 262144 + at0 s (i + 1) % 64 * 4096 + at0 s (i + 2) % 64 * 64 + at0 s (i + 3) % 64 ≥ 65536) && Utf8.valid ((at0 s i % 8 * 262144 + at0 s (i + 1) % 64 * 4096 + at0 s (i + 2) % 64 * 64 + at0 s (i + 3) % 64 : Nat) : Int)) = true then (at0 s i % 8 * 262144 + at0 s (i + 1) % 64 * 4096 + at0 s (i + 2) % 64 * 64 + at0 s (i + 3) % 64, 4) else (65533, 1)
    else (65533, 1) := by
  have hsz : (ByteArray.mk s.toArray).size = s.length := by show s.toArray.size = s.length; simp
  unfold dec Utf8.decode contB
  simp only [get_at0, hsz, Nat.add_zero]
  rfl
theorem at0_drop (s : List UInt8) (i k : Nat) : at0 (s.drop i) k = at0 s (i + k) := by
  unfold at0
  rw [List.getElem?_drop]
theorem contB_drop (s : List UInt8) (i k : Nat) : contB (s.drop i) 0 k = contB s i k := by
  unfold contB
  rw [at0_drop, Nat.zero_add, List.length_drop]
  congr 1
  exact decide_eq_decide.2 (by omega)
theorem dec_drop (s : List UInt8) (i : Nat) : dec (s.drop i) 0 = dec s i := by
  rw [dec_unf, dec_unf]
  simp only [contB_drop, at0_drop, Nat.zero_add, Nat.add_zero]
end Go.Mo
set_option maxRecDepth 100000
namespace Go.Mo
open Go Go.Sl
/-- The place of the k-th rune. -/
def posR (s : List UInt8) : Nat → Nat
  | 0 => 0
  | k + 1 => posR s k + (dec s (posR s k)).2
def okR (s : List UInt8) (p : Nat) : Prop := 33 ≤ (dec s p).1 ∧ (dec s p).1 ≠ 127 ∧ dec s p ≠ (65533, 1)
/-- k runes are there, and all may be. -/
def RunsR (s : List UInt8) (k : Nat) : Prop := ∀ j, j < k → posR s j < s.length ∧ okR s (posR s j)
def GoodQ (s : List UInt8) (r : Bool) : Prop :=
  (∃ k, RunsR s k ∧ posR s k < s.length ∧ ¬ okR s (posR s k)) ∧ r = false ∨ (∃ k, RunsR s k ∧ posR s k = s.length) ∧ r = decide (1 ≤ s.length ∧ s.length ≤ 16)
theorem good_not {s : List UInt8} {k j : Nat} (h : RunsR s k) (hp : posR s k < s.length) (ho : ¬ okR s (posR s k)) (g : RunsR s j) (gp : posR s j = s.length) : False := by
  rcases Nat.lt_trichotomy k j with h1 | h1 | h1
  · exact ho (g k h1).2
  · subst h1; omega
  · have := (h j h1).1; omega
theorem GoodQ.unique {s : List UInt8} {a b : Bool} (h : GoodQ s a) (g : GoodQ s b) : a = b := by
  rcases h with ⟨⟨k, h1, h2, h3⟩, rfl⟩ | ⟨⟨k, h1, h2⟩, rfl⟩ <;> rcases g with ⟨⟨j, g1, g2, g3⟩, rfl⟩ | ⟨⟨j, g1, g2⟩, rfl⟩
  · rfl
  · exact (good_not h1 h2 h3 g1 g2).elim
  · exact (good_not g1 g2 g3 h1 h2).elim
  · rfl
end Go.Mo
set_option maxRecDepth 100000
namespace Go.Mo
open Go Go.Sl
def hexL : List UInt8 := [48, 49, 50, 51, 52, 53, 54, 55, 56, 57, 97, 98, 99, 100, 101, 102]
/-- One digit. -/
def hexD (d : Nat) : List UInt8 := (hexL.take (d + 1)).drop d
/-- So many digits of a number. -/
def hexN (v : Nat) : Nat → List UInt8
  | 0 => []
  | n + 1 => hexN (v / 16) n ++ hexD (v % 16)
theorem hexN_front : ∀ (n v : Nat), hexN v (n + 1) = hexD (v / 16 ^ n % 16) ++ hexN v n
  | 0, v => by show [] ++ hexD (v % 16) = hexD (v / 1 % 16) ++ []; simp
  | n + 1, v => by
    show hexN (v / 16) (n + 1) ++ hexD (v % 16) = hexD (v / 16 ^ (n + 1) % 16) ++ (hexN (v / 16) n ++ hexD (v % 16))
    rw [hexN_front n (v / 16), Nat.div_div_eq_div_mul, Nat.pow_succ, Nat.mul_comm 16, List.append_assoc]
theorem hexD_length {d : Nat} (h : d < 16) : (hexD d).length = 1 := by
  unfold hexD
  rw [List.length_drop, List.length_take]
  have : hexL.length = 16 := rfl
  omega
theorem hexN_length : ∀ (n v : Nat), (hexN v n).length = n
  | 0, _ => rfl
  | n + 1, v => by
    show (hexN (v / 16) n ++ hexD (v % 16)).length = n + 1
    rw [List.length_append, hexN_length n, hexD_length (Nat.mod_lt _ (by omega))]
/-- The bytes of a rune. -/
def enc (r : Nat) : List UInt8 := (Utf8.encode (r : Int)).data.toList
theorem enc_eq {r : Nat} (h : r ≤ 1114111) : enc r = Lib.encodeRune (r : Int) := by
  unfold enc Utf8.encode Lib.encodeRune
  by_cases hv : Utf8.valid (r : Int) = true
  · rw [if_pos hv]
    have hv2 := hv
    simp only [Utf8.valid, Bool.or_eq_true, Bool.and_eq_true, decide_eq_true_eq] at hv2
    simp only [Int.toNat_natCast]
    by_cases h1 : r < 128
    · rw [if_pos h1, Lib.encodeRuneZ_one (by omega) (by omega)]
      rfl
    · rw [if_neg h1]
      by_cases h2 : r < 2048
      · rw [if_pos h2, Lib.encodeRuneZ_two (by omega) (by omega)]
        rfl
      · rw [if_neg h2]
        by_cases h3 : r < 65536
        · rw [if_pos h3, Lib.encodeRuneZ_three (by omega)]
          rfl
        · rw [if_neg h3, Lib.encodeRuneZ_four (by omega) (by omega)]
          rfl
  · rw [if_neg hv]
    have hv2 : ¬ _ := hv
    simp only [Utf8.valid, Bool.or_eq_true, Bool.and_eq_true, decide_eq_true_eq] at hv2
    rw [Lib.encodeRuneZ_bad (by omega)]
    rfl
theorem enc_dec {s : List UInt8} (hs : s ≠ []) (h : dec s 0 ≠ (65533, 1)) : enc (dec s 0).1 = s.take (dec s 0).2 := by
  have hl : 0 < s.length := List.length_pos_iff.2 hs
  rw [enc_eq (by have := dec_lt hl; omega)]
  exact Lib.encode_decode s hs (fun g => h (Prod.ext g.1 g.2))
/-- What a rune is told as. -/
def toldR (r : Nat) : List UInt8 :=
  if r = 34 ∨ r = 92 then 92 :: enc r else if r = 10 then [92, 110] else if r = 9 then [92, 116] else if r = 0 then [92, 48]
  else if r < 32 ∨ r = 127 then [92, 120] ++ hexN r 2 else if (128 ≤ r ∧ r ≤ 159) ∨ r = 8232 ∨ r = 8233 ∨ r = 65279 then [92, 117] ++ hexN r 4 else enc r
/-- What the beginning of a text is told as. -/
def pcB (s : List UInt8) : List UInt8 := if dec s 0 = (65533, 1) then [92, 120] ++ hexN (at0 s 0) 2 else toldR (dec s 0).1
def wdB (s : List UInt8) : Nat := (dec s 0).2
theorem wdB_pos {s : List UInt8} (h : s ≠ []) : 1 ≤ wdB s ∧ wdB s ≤ s.length := by
  have := dec_step (l := s) (i := 0) (List.length_pos_iff.2 h)
  rw [Nat.zero_add] at this
  exact this
def qF : Nat → List UInt8 → List UInt8
  | 0, _ => []
  | k + 1, s => if s = [] then [] else pcB s ++ qF k (s.drop (wdB s))
theorem qF_eq : ∀ {k m : Nat} {s : List UInt8}, s.length ≤ k → s.length ≤ m → qF k s = qF m s
  | 0, 0, _, _, _ => rfl
  | 0, m + 1, s, h, _ => by
    obtain rfl : s = [] := List.eq_nil_of_length_eq_zero (by omega)
    rfl
  | k + 1, 0, s, _, h => by
    obtain rfl : s = [] := List.eq_nil_of_length_eq_zero (by omega)
    rfl
  | k + 1, m + 1, s, h1, h2 => by
    unfold qF
    split
    · rfl
    · rename_i hs
      have := wdB_pos hs
      rw [qF_eq (k := k) (m := m) (by rw [List.length_drop]; omega) (by rw [List.length_drop]; omega)]
/-- A text's pieces, one behind the other. -/
def qI (s : List UInt8) : List UInt8 := qF s.length s
theorem qI_nil : qI [] = [] := rfl
theorem qI_step {s : List UInt8} (h : s ≠ []) : qI s = pcB s ++ qI (s.drop (wdB s)) := by
  have hw := wdB_pos h
  have hl : 0 < s.length := List.length_pos_iff.2 h
  obtain ⟨n, hn⟩ : ∃ n, s.length = n + 1 := ⟨s.length - 1, by omega⟩
  show qF s.length s = pcB s ++ qF (s.drop (wdB s)).length (s.drop (wdB s))
  rw [hn]
  show (if s = [] then [] else pcB s ++ qF n (s.drop (wdB s))) = _
  rw [if_neg h, qF_eq (k := n) (m := (s.drop (wdB s)).length) (by rw [List.length_drop]; omega) (Nat.le_refl _)]
/-- The text told. -/
def Qt (s : List UInt8) : List UInt8 := 34 :: qI s ++ [34]
theorem enc_len1 {r : Nat} : 1 ≤ (enc r).length ∧ (enc r).length ≤ 4 := by
  unfold enc Utf8.encode
  dsimp only
  generalize (if Utf8.valid (r : Int) = true then (r : Int).toNat else Utf8.runeError) = c
  by_cases h1 : c < 128
  · rw [if_pos h1]; simp
  · rw [if_neg h1]
    by_cases h2 : c < 2048
    · rw [if_pos h2]; simp
    · rw [if_neg h2]
      by_cases h3 : c < 65536
      · rw [if_pos h3]; simp
      · rw [if_neg h3]; simp
theorem toldR_len {r : Nat} : 1 ≤ (toldR r).length ∧ (toldR r).length ≤ 6 := by
  have h1 := enc_len1 (r := r)
  unfold toldR
  repeat' split
  all_goals (try simp only [List.length_cons, List.length_append, hexN_length, List.length_nil])
  all_goals omega
theorem pcB_len {s : List UInt8} : 1 ≤ (pcB s).length ∧ (pcB s).length ≤ 6 := by
  unfold pcB
  split
  · simp only [List.length_cons, List.length_append, hexN_length, List.length_nil]; omega
  · exact toldR_len
theorem qI_len : ∀ (n : Nat) (s : List UInt8), s.length ≤ n → (qI s).length ≤ 6 * s.length
  | 0, s, h => by
    obtain rfl : s = [] := List.eq_nil_of_length_eq_zero (by omega)
    exact Nat.zero_le _
  | n + 1, s, h => by
    by_cases hs : s = []
    · subst hs; exact Nat.zero_le _
    · have hw := wdB_pos hs
      rw [qI_step hs, List.length_append]
      have h1 := qI_len n (s.drop (wdB s)) (by rw [List.length_drop]; omega)
      have h2 := pcB_len (s := s)
      rw [List.length_drop] at h1
      omega
end Go.Mo
set_option maxRecDepth 100000
namespace Go.Mo
open Go Go.Sl
/-- A digit's number, or -1. -/
def digI (c : UInt8) : Int := Lib.indexByte hexL c
theorem digI_le (c : UInt8) : digI c ≤ 15 := by
  rcases Int.lt_or_le (digI c) 0 with h | h
  · omega
  · obtain ⟨o, ho⟩ := Int.eq_ofNat_of_zero_le h
    have h2 := (Lib.indexByte_some (l := hexL) (c := c) (o := o) ho).1
    have h3 : o < hexL.length := by
      rcases Nat.lt_or_ge o hexL.length with g | g
      · exact g
      · rw [List.getElem?_eq_none g] at h2; cases h2
    have : hexL.length = 16 := rfl
    omega
/-- Digits read. -/
def hexF : Nat → List UInt8 → Option Nat
  | v, [] => some v
  | v, c :: r => if 0 ≤ digI c then hexF (16 * v + (digI c).toNat) r else none
theorem hexF_app : ∀ (a b : List UInt8) (v : Nat), hexF v (a ++ b) = (hexF v a).bind fun u => hexF u b
  | [], _, _ => rfl
  | c :: a, b, v => by
    show (if 0 ≤ digI c then hexF (16 * v + (digI c).toNat) (a ++ b) else none) = (if 0 ≤ digI c then hexF (16 * v + (digI c).toNat) a else none).bind _
    split
    · exact hexF_app a b _
    · rfl
theorem hexF_one {v : Nat} {c : UInt8} : hexF v [c] = if 0 ≤ digI c then some (16 * v + (digI c).toNat) else none := rfl
theorem hexF_step {v u i : Nat} {s : List UInt8} (hi : i < s.length) (h : hexF v (s.take i) = some u) : hexF v (s.take (i + 1)) = if 0 ≤ digI s[i] then some (16 * u + (digI s[i]).toNat) else none := by
  rw [List.take_succ_eq_append_getElem hi, hexF_app, h]
  exact hexF_one
theorem hexF_bad {v u i n : Nat} {s : List UInt8} (hi : i < n) (hn : n ≤ s.length) (h : hexF v (s.take i) = some u) (hd : digI (s[i]'(by omega)) < 0) : hexF v (s.take n) = none := by
  have e : s.take n = s.take (i + 1) ++ (s.drop (i + 1)).take (n - (i + 1)) := by
    rw [← List.take_add]
    congr 1
    omega
  rw [e, hexF_app, hexF_step (by omega) h, if_neg (by omega)]
  rfl
theorem hexD_read (v : Nat) : ∀ d, d < 16 → hexF v (hexD d) = some (16 * v + d) := by
  intro d hd
  have h : ∀ k : Fin 16, hexD k.1 = [(hexD k.1).headD 0] ∧ digI ((hexD k.1).headD 0) = (k.1 : Int) := by decide
  obtain ⟨h1, h2⟩ := h ⟨d, hd⟩
  have h1 : hexD d = [(hexD d).headD 0] := h1
  have h2 : digI ((hexD d).headD 0) = (d : Int) := h2
  rw [h1, hexF_one, h2, if_pos (by omega)]
  rfl
theorem hexF_hexN : ∀ (n v u : Nat), hexF u (hexN v n) = some (u * 16 ^ n + v % 16 ^ n)
  | 0, v, u => by show some u = some (u * 1 + v % 1); rw [Nat.mod_one, Nat.mul_one, Nat.add_zero]
  | n + 1, v, u => by
    show hexF u (hexN (v / 16) n ++ hexD (v % 16)) = _
    rw [hexF_app, hexF_hexN n (v / 16) u]
    show hexF (u * 16 ^ n + v / 16 % 16 ^ n) (hexD (v % 16)) = _
    rw [hexD_read _ _ (Nat.mod_lt _ (by omega)), Nat.pow_succ, Nat.mul_comm (16 ^ n) 16, Nat.mod_mul]
    congr 1
    rw [Nat.mul_add, ← Nat.mul_assoc u 16, Nat.mul_comm u 16, Nat.mul_assoc]
    omega
theorem hexF_two {b : Nat} (h : b < 256) : hexF 0 (hexN b 2) = some b := by rw [hexF_hexN, Nat.mod_eq_of_lt (by omega)]; simp
theorem hexF_four {b : Nat} (h : b < 65536) : hexF 0 (hexN b 4) = some b := by rw [hexF_hexN, Nat.mod_eq_of_lt (by omega)]; simp
/-- So many digits at the beginning of a text. -/
def hexP (s : List UInt8) (n : Nat) : Option Nat := if n ≤ s.length then hexF 0 (s.take n) else none
theorem hexP_two {b : Nat} {t : List UInt8} (h : b < 256) : hexP (hexN b 2 ++ t) 2 = some b := by
  unfold hexP
  rw [if_pos (by rw [List.length_append, hexN_length]; omega), List.take_left' (hexN_length _ _), hexF_two h]
theorem hexP_four {b : Nat} {t : List UInt8} (h : b < 65536) : hexP (hexN b 4 ++ t) 4 = some b := by
  unfold hexP
  rw [if_pos (by rw [List.length_append, hexN_length]; omega), List.take_left' (hexN_length _ _), hexF_four h]
/-- A rune that is well formed is the same whatever stands behind. -/
theorem dec_prefix {s t : List UInt8} (hs : s ≠ []) (h : dec s 0 ≠ (65533, 1)) : dec (s.take (dec s 0).2 ++ t) 0 = dec s 0 := by
  have hl : 0 < s.length := List.length_pos_iff.2 hs
  have hw := dec_step hl
  rw [Nat.zero_add] at hw
  have ha : ∀ k, k < (dec s 0).2 → at0 (s.take (dec s 0).2 ++ t) k = at0 s k := fun k hk => by
    unfold at0
    rw [List.getElem?_append_left (by rw [List.length_take]; omega), List.getElem?_take, if_pos hk]
  have hc : ∀ k, k < (dec s 0).2 → contB (s.take (dec s 0).2 ++ t) 0 k = contB s 0 k := fun k hk => by
    unfold contB
    rw [Nat.zero_add, ha k hk]
    congr 1
    exact decide_eq_decide.2 ⟨fun _ => by omega, fun _ => by rw [List.length_append, List.length_take]; omega⟩
  generalize hu : s.take (dec s 0).2 ++ t = u at ha hc
  have h0 := ha 0 (by omega)
  rw [dec_unf u, h0]
  rw [dec_unf s] at h ha hc ⊢
  simp only [Nat.zero_add] at h ha hc ⊢
  by_cases g0 : at0 s 0 < 128
  · rw [if_pos g0, if_pos g0]
  · rw [if_neg g0] at h ha hc ⊢
    rw [if_neg g0]
    by_cases g1 : (at0 s 0 / 32 == 6 && contB s 0 1) = true
    · rw [if_pos g1] at h ha hc ⊢
      by_cases g2 : at0 s 0 % 32 * 64 + at0 s 1 % 64 ≥ 128
      · rw [if_pos g2] at ha hc ⊢
        rw [hc 1 (by dsimp only; omega), ha 1 (by dsimp only; omega), if_pos g1, if_pos g2]
      · rw [if_neg g2] at h; exact absurd rfl h
    · rw [if_neg g1] at h ha hc ⊢
      by_cases g2 : (at0 s 0 / 16 == 14 && contB s 0 1 && contB s 0 2) = true
      · rw [if_pos g2] at h ha hc ⊢
        split at h
        · rename_i g3
          rw [if_pos g3] at ha hc ⊢
          have g4 := g2
          simp only [Bool.and_eq_true, beq_iff_eq] at g4
          have e6 : (at0 s 0 / 32 == 6) = false := by rw [beq_eq_false_iff_ne]; omega
          rw [hc 1 (by dsimp only; omega), hc 2 (by dsimp only; omega), ha 1 (by dsimp only; omega), ha 2 (by dsimp only; omega), e6, if_neg (by simp), if_pos g2, if_pos g3]
        · exact absurd rfl h
      · rw [if_neg g2] at h ha hc ⊢
        by_cases g3 : (at0 s 0 / 8 == 30 && contB s 0 1 && contB s 0 2 && contB s 0 3) = true
        · rw [if_pos g3] at h ha hc ⊢
          split at h
          · rename_i g4
            rw [if_pos g4] at ha hc ⊢
            have g5 := g3
            simp only [Bool.and_eq_true, beq_iff_eq] at g5
            have e6 : (at0 s 0 / 32 == 6) = false := by rw [beq_eq_false_iff_ne]; omega
            have e7 : (at0 s 0 / 16 == 14) = false := by rw [beq_eq_false_iff_ne]; omega
            rw [hc 1 (by dsimp only; omega), hc 2 (by dsimp only; omega), hc 3 (by dsimp only; omega), ha 1 (by dsimp only; omega), ha 2 (by dsimp only; omega), ha 3 (by dsimp only; omega), e6, e7, if_neg (by simp), if_neg (by simp), if_pos g3, if_pos g4]
          · exact absurd rfl h
        · rw [if_neg g3] at h; exact absurd rfl h
end Go.Mo
set_option maxRecDepth 100000
namespace Go.Mo
open Go Go.Sl
def setU (v : Nat) : Prop := (128 ≤ v ∧ v ≤ 159) ∨ v = 8232 ∨ v = 8233 ∨ v = 65279
def PairC (c d : UInt8) : Prop := (c = 34 ∧ d = 34) ∨ (c = 92 ∧ d = 92) ∨ (c = 110 ∧ d = 10) ∨ (c = 116 ∧ d = 9) ∨ (c = 48 ∧ d = 0)
/-- A piece, and the bytes that it tells. -/
inductive PcQ (s : List UInt8) : List UInt8 → List UInt8 → Prop
  | raw : dec s 0 ≠ (65533, 1) → at0 s 0 ≠ 92 → at0 s 0 ≠ 34 → PcQ s (s.take (wdB s)) (s.take (wdB s))
  | esc (c d : UInt8) : PairC c d → PcQ s [92, c] [d]
  | byte (b : Nat) : b < 256 → PcQ s ([92, 120] ++ hexN b 2) [UInt8.ofNat b]
  | rune (v : Nat) : setU v → PcQ s ([92, 117] ++ hexN v 4) (enc v)
theorem take_one {s : List UInt8} (hs : s ≠ []) : s.take 1 = [UInt8.ofNat (at0 s 0)] := by
  cases s with
  | nil => exact absurd rfl hs
  | cons c r =>
    show [c] = [UInt8.ofNat c.toNat]
    rw [UInt8.ofNat_toNat]
theorem enc_low {r : Nat} (h : r < 128) : enc r = [UInt8.ofNat r] := by
  unfold enc Utf8.encode
  have hv : Utf8.valid (r : Int) = true := by simp [Utf8.valid]; omega
  rw [if_pos hv, Int.toNat_natCast, if_pos h]
theorem pc_q {s : List UInt8} (hs : s ≠ []) : PcQ s (pcB s) (s.take (wdB s)) := by
  have hl : 0 < s.length := List.length_pos_iff.2 hs
  by_cases hb : dec s 0 = (65533, 1)
  · have e1 : pcB s = [92, 120] ++ hexN (at0 s 0) 2 := by unfold pcB; rw [if_pos hb]
    have e2 : wdB s = 1 := congrArg Prod.snd hb
    rw [e1, e2, take_one hs]
    exact .byte _ at0_lt
  · have e1 : pcB s = toldR (dec s 0).1 := by unfold pcB; rw [if_neg hb]
    have e2 : s.take (wdB s) = enc (dec s 0).1 := (enc_dec hs hb).symm
    by_cases hset : (dec s 0).1 = 34 ∨ (dec s 0).1 = 92 ∨ (dec s 0).1 < 32 ∨ (dec s 0).1 = 127 ∨ setU (dec s 0).1
    · rw [e1, e2]
      generalize (dec s 0).1 = r at hset
      unfold toldR
      by_cases h1 : r = 34 ∨ r = 92
      · rw [if_pos h1]
        rcases h1 with rfl | rfl
        · exact .esc 34 34 (.inl ⟨rfl, rfl⟩)
        · exact .esc 92 92 (.inr (.inl ⟨rfl, rfl⟩))
      · rw [if_neg h1]
        by_cases h2 : r = 10
        · subst h2; exact .esc 110 10 (.inr (.inr (.inl ⟨rfl, rfl⟩)))
        · rw [if_neg h2]
          by_cases h3 : r = 9
          · subst h3; exact .esc 116 9 (.inr (.inr (.inr (.inl ⟨rfl, rfl⟩))))
          · rw [if_neg h3]
            by_cases h4 : r = 0
            · subst h4; exact .esc 48 0 (.inr (.inr (.inr (.inr ⟨rfl, rfl⟩))))
            · rw [if_neg h4]
              by_cases h5 : r < 32 ∨ r = 127
              · rw [if_pos h5, enc_low (by omega)]
                exact .byte r (by omega)
              · rw [if_neg h5]
                have h6 : setU r := by rcases hset with h | h | h | h | h <;> first | exact h | omega
                rw [if_pos (show (128 ≤ r ∧ r ≤ 159) ∨ r = 8232 ∨ r = 8233 ∨ r = 65279 from h6)]
                exact .rune r h6
    · have h3 : pcB s = s.take (wdB s) := by
        rw [e1, e2]
        unfold toldR
        unfold setU at hset
        rw [if_neg (by omega), if_neg (by omega), if_neg (by omega), if_neg (by omega), if_neg (by omega), if_neg (by omega)]
      rw [h3]
      have hlow : ∀ c, c < 128 → at0 s 0 = c → (dec s 0).1 = c := fun c hc h => by
        rw [at0_get hl] at h
        rw [dec_low hl (by omega)]
        exact h
      exact .raw hb (fun h => hset (.inr (.inl (hlow 92 (by omega) h)))) (fun h => hset (.inl (hlow 34 (by omega) h)))
/-- What stands at the beginning of a text that is told: what it tells, and how many bytes tell it. -/
structure OneQ (s x : List UInt8) (k : Nat) : Prop where
  le : k ≤ s.length
  ne : k ≠ 0 → x ≠ []
  len : x.length ≤ k
  can : ∀ s0 t, s0 ≠ [] → s = pcB s0 ++ t → x = s0.take (wdB s0) ∧ k = (pcB s0).length
theorem at0_raw {s0 t : List UInt8} (h : s0 ≠ []) : at0 (s0.take (wdB s0) ++ t) 0 = at0 s0 0 := by
  have hw := wdB_pos h
  unfold at0
  rw [List.getElem?_append_left (by rw [List.length_take]; omega), List.getElem?_take, if_pos (by omega)]
theorem can_raw {s s0 t : List UInt8} (h92 : at0 s 0 ≠ 92) (h : s0 ≠ []) (e : s = pcB s0 ++ t) : pcB s0 = s0.take (wdB s0) ∧ dec s 0 = dec s0 0 ∧ dec s0 0 ≠ (65533, 1) := by
  have hq := pc_q h
  generalize hp : pcB s0 = p at hq e ⊢
  generalize hx : s0.take (wdB s0) = x at hq ⊢
  cases hq with
  | raw h1 _ _ =>
    subst e
    exact ⟨rfl, by unfold wdB; exact dec_prefix h h1, h1⟩
  | esc c d _ => subst e; exact absurd rfl h92
  | byte b _ => subst e; exact absurd rfl h92
  | rune v _ => subst e; exact absurd rfl h92
theorem one_raw {s : List UInt8} (hs : s ≠ []) (h92 : at0 s 0 ≠ 92) : OneQ s (s.take (dec s 0).2) (dec s 0).2 := by
  have hw := dec_step (List.length_pos_iff.2 hs)
  rw [Nat.zero_add] at hw
  refine ⟨hw.2, fun _ g => ?_, by rw [List.length_take]; omega, fun s0 t h e => ?_⟩
  · have := congrArg List.length g
    rw [List.length_take] at this
    simp only [List.length_nil] at this
    omega
  · obtain ⟨h1, h2, h3⟩ := can_raw h92 h e
    have hw0 := wdB_pos h
    rw [h2, h1]
    constructor
    · rw [e, h1]
      show List.take (wdB s0) _ = _
      rw [List.take_left' (by rw [List.length_take]; omega)]
    · show wdB s0 = _
      rw [List.length_take]
      omega
theorem can_esc {c : UInt8} {r s0 t : List UInt8} (h : s0 ≠ []) (e : 92 :: c :: r = pcB s0 ++ t) :
    (∃ d, PairC c d ∧ s0.take (wdB s0) = [d] ∧ (pcB s0).length = 2) ∨ (c = 120 ∧ ∃ b, b < 256 ∧ r = hexN b 2 ++ t ∧ s0.take (wdB s0) = [UInt8.ofNat b] ∧ (pcB s0).length = 4) ∨
    (c = 117 ∧ ∃ v, setU v ∧ r = hexN v 4 ++ t ∧ s0.take (wdB s0) = enc v ∧ (pcB s0).length = 6) := by
  have hq := pc_q h
  generalize hp : pcB s0 = p at hq e ⊢
  generalize hx : s0.take (wdB s0) = x at hq ⊢
  cases hq with
  | raw h1 h2 _ =>
    have := at0_raw (t := t) h
    rw [hx, ← e] at this
    exact absurd this.symm h2
  | esc c' d hpair =>
    injection e with _ e
    injection e with e1 _
    subst e1
    exact .inl ⟨d, hpair, rfl, rfl⟩
  | byte b hb =>
    injection e with _ e
    injection e with e1 e2
    exact .inr (.inl ⟨e1, b, hb, e2, rfl, by rw [List.length_append, hexN_length]; rfl⟩)
  | rune v hv =>
    injection e with _ e
    injection e with e1 e2
    exact .inr (.inr ⟨e1, v, hv, e2, rfl, by rw [List.length_append, hexN_length]; rfl⟩)
theorem one_short {s : List UInt8} (h92 : at0 s 0 = 92) (hl : s.length < 2) : OneQ s [] 0 :=
  ⟨Nat.zero_le _, fun h => absurd rfl h, Nat.le_refl _, fun s0 t h e => by
    have hq := pc_q h
    generalize hp : pcB s0 = p at hq e
    generalize hx : s0.take (wdB s0) = x at hq
    cases hq with
    | raw _ h2 _ =>
      have := at0_raw (t := t) h
      rw [hx, ← e] at this
      exact absurd (this.symm.trans h92) h2
    | esc c d _ => rw [e] at hl; simp only [List.length_append, List.length_cons] at hl; omega
    | byte b _ => rw [e] at hl; simp only [List.length_append, List.length_cons] at hl; omega
    | rune v _ => rw [e] at hl; simp only [List.length_append, List.length_cons] at hl; omega⟩
theorem one_pair {c d : UInt8} {r : List UInt8} (hp : PairC c d) : OneQ (92 :: c :: r) [d] 2 :=
  ⟨by simp, fun _ g => (by cases g), by simp, fun s0 t h e => by
    rcases can_esc h e with ⟨d', h1, h2, h3⟩ | ⟨rfl, _⟩ | ⟨rfl, _⟩
    · refine ⟨?_, h3.symm⟩
      rw [h2]
      rcases hp with ⟨rfl, rfl⟩ | ⟨rfl, rfl⟩ | ⟨rfl, rfl⟩ | ⟨rfl, rfl⟩ | ⟨rfl, rfl⟩ <;> rcases h1 with ⟨h1, rfl⟩ | ⟨h1, rfl⟩ | ⟨h1, rfl⟩ | ⟨h1, rfl⟩ | ⟨h1, rfl⟩ <;> first | rfl | (exact absurd h1 (by decide))
    · rcases hp with ⟨h, _⟩ | ⟨h, _⟩ | ⟨h, _⟩ | ⟨h, _⟩ | ⟨h, _⟩ <;> exact absurd h (by decide)
    · rcases hp with ⟨h, _⟩ | ⟨h, _⟩ | ⟨h, _⟩ | ⟨h, _⟩ | ⟨h, _⟩ <;> exact absurd h (by decide)⟩
theorem pair_x {d : UInt8} (h : PairC 120 d) : False := by rcases h with ⟨h, _⟩ | ⟨h, _⟩ | ⟨h, _⟩ | ⟨h, _⟩ | ⟨h, _⟩ <;> exact absurd h (by decide)
theorem pair_u {d : UInt8} (h : PairC 117 d) : False := by rcases h with ⟨h, _⟩ | ⟨h, _⟩ | ⟨h, _⟩ | ⟨h, _⟩ | ⟨h, _⟩ <;> exact absurd h (by decide)
theorem hexP_le {r : List UInt8} {n v : Nat} (h : hexP r n = some v) : n ≤ r.length := by
  unfold hexP at h
  split at h
  · assumption
  · cases h
theorem setU_lt {v : Nat} (h : setU v) : v < 65536 := by unfold setU at h; omega
theorem one_x {r : List UInt8} {v : Nat} (hv : hexP r 2 = some v) : OneQ (92 :: 120 :: r) [UInt8.ofNat v] 4 :=
  ⟨by have := hexP_le hv; simp only [List.length_cons]; omega, fun _ g => (by cases g), by simp, fun s0 t h e => by
    rcases can_esc h e with ⟨d', h1, _⟩ | ⟨_, b, h1, rfl, h3, h4⟩ | ⟨h0, _⟩
    · exact (pair_x h1).elim
    · rw [hexP_two h1] at hv
      cases hv
      exact ⟨h3.symm, h4.symm⟩
    · exact absurd h0 (by decide)⟩
theorem one_x0 {r : List UInt8} (hv : hexP r 2 = none) : OneQ (92 :: 120 :: r) [] 0 :=
  ⟨Nat.zero_le _, fun h => absurd rfl h, Nat.le_refl _, fun s0 t h e => by
    rcases can_esc h e with ⟨d', h1, _⟩ | ⟨_, b, h1, rfl, h3, h4⟩ | ⟨h0, _⟩
    · exact (pair_x h1).elim
    · rw [hexP_two h1] at hv
      cases hv
    · exact absurd h0 (by decide)⟩
theorem one_u {r x : List UInt8} {v : Nat} (hv : hexP r 4 = some v) (hx : setU v → x = enc v) (hn : x ≠ []) (hl : x.length ≤ 6) : OneQ (92 :: 117 :: r) x 6 :=
  ⟨by have := hexP_le hv; simp only [List.length_cons]; omega, fun _ => hn, hl, fun s0 t h e => by
    rcases can_esc h e with ⟨d', h1, _⟩ | ⟨h0, _⟩ | ⟨_, u, h1, rfl, h3, h4⟩
    · exact (pair_u h1).elim
    · exact absurd h0 (by decide)
    · rw [hexP_four (setU_lt h1)] at hv
      cases hv
      exact ⟨(hx h1).trans h3.symm, h4.symm⟩⟩
theorem one_u0 {r : List UInt8} (hv : hexP r 4 = none) : OneQ (92 :: 117 :: r) [] 0 :=
  ⟨Nat.zero_le _, fun h => absurd rfl h, Nat.le_refl _, fun s0 t h e => by
    rcases can_esc h e with ⟨d', h1, _⟩ | ⟨h0, _⟩ | ⟨_, u, h1, rfl, h3, h4⟩
    · exact (pair_u h1).elim
    · exact absurd h0 (by decide)
    · rw [hexP_four (setU_lt h1)] at hv
      cases hv⟩
theorem one_other {c : UInt8} {r : List UInt8} (h1 : c ≠ 34) (h2 : c ≠ 92) (h3 : c ≠ 110) (h4 : c ≠ 116) (h5 : c ≠ 48) (h6 : c ≠ 120) (h7 : c ≠ 117) : OneQ (92 :: c :: r) [] 0 :=
  ⟨Nat.zero_le _, fun h => absurd rfl h, Nat.le_refl _, fun s0 t h e => by
    rcases can_esc h e with ⟨d', hp, _⟩ | ⟨h0, _⟩ | ⟨h0, _⟩
    · rcases hp with ⟨h, _⟩ | ⟨h, _⟩ | ⟨h, _⟩ | ⟨h, _⟩ | ⟨h, _⟩
      · exact absurd h h1
      · exact absurd h h2
      · exact absurd h h3
      · exact absurd h h4
      · exact absurd h h5
    · exact absurd h0 h6
    · exact absurd h0 h7⟩
end Go.Mo
set_option maxRecDepth 100000
namespace Go.Mo
open Go Go.Sl
theorem pc_head {s t : List UInt8} (h : s ≠ []) : at0 (pcB s ++ t) 0 ≠ 34 := by
  have hq := pc_q h
  generalize hp : pcB s = p at hq ⊢
  generalize hx : s.take (wdB s) = x at hq
  cases hq with
  | raw _ _ h3 =>
    have := at0_raw (t := t) h
    rw [hx] at this
    rw [this]
    exact h3
  | esc c d _ => exact fun g => absurd (show (92 : Nat) = 34 from g) (by omega)
  | byte b _ => exact fun g => absurd (show (92 : Nat) = 34 from g) (by omega)
  | rune v _ => exact fun g => absurd (show (92 : Nat) = 34 from g) (by omega)
/-- So far read: of any text that is told there, the beginning; the rest is told by what is left. -/
def InvR (l : List UInt8) (i : Nat) (q : List UInt8) : Prop := ∀ s0 tl, l = Qt s0 ++ tl → ∃ p, p ≤ s0.length ∧ q = s0.take p ∧ l.drop i = qI (s0.drop p) ++ 34 :: tl
def NoneR (l : List UInt8) : Prop := ∀ s0 tl, l ≠ Qt s0 ++ tl
theorem Qt_app (s tl : List UInt8) : Qt s ++ tl = 34 :: (qI s ++ 34 :: tl) := by unfold Qt; simp
theorem none_head {l : List UInt8} (h : at0 l 0 ≠ 34) : NoneR l := fun s0 tl e => by
  rw [e, Qt_app] at h
  exact h rfl
theorem inv_init {l : List UInt8} : InvR l 1 [] := fun s0 tl e => ⟨0, Nat.zero_le _, rfl, by rw [e, Qt_app]; rfl⟩
theorem drop_at0 {l : List UInt8} {i : Nat} : at0 (l.drop i) 0 = at0 l i := by rw [at0_drop, Nat.add_zero]
theorem inv_end {l q : List UInt8} {i : Nat} (h : InvR l i q) (hi : l.length ≤ i) : NoneR l := fun s0 tl e => by
  obtain ⟨p, _, _, h2⟩ := h s0 tl e
  rw [List.drop_eq_nil_of_le hi] at h2
  have := congrArg List.length h2
  simp at this
theorem inv_fail {l q : List UInt8} {i : Nat} (h : InvR l i q) (hi : at0 l i = 34) (hq : Qt q ≠ l.take (i + 1)) : NoneR l := fun s0 tl e => by
  obtain ⟨p, h0, h1, h2⟩ := h s0 tl e
  by_cases hs : s0.drop p = []
  · have hp : q = s0 := by
      have := congrArg List.length hs
      rw [List.length_drop] at this
      simp only [List.length_nil] at this
      rw [h1, List.take_of_length_le (by omega)]
    rw [hs] at h2
    have h3 := congrArg List.length h2
    have h4 := congrArg List.length e
    rw [List.length_drop] at h3
    simp only [qI_nil, List.nil_append, List.length_cons, List.length_append] at h3 h4
    apply hq
    rw [hp, e, List.take_append_of_le_length (by omega), List.take_of_length_le (by omega)]
  · have h3 := pc_head (t := qI ((s0.drop p).drop (wdB (s0.drop p))) ++ 34 :: tl) hs
    rw [qI_step hs, List.append_assoc] at h2
    rw [← h2, drop_at0] at h3
    exact h3 hi
theorem inv_at {l q : List UInt8} {i : Nat} (h : InvR l i q) (hi : at0 l i ≠ 34) {s0 tl : List UInt8} (e : l = Qt s0 ++ tl) :
    ∃ p, p ≤ s0.length ∧ q = s0.take p ∧ s0.drop p ≠ [] ∧ l.drop i = pcB (s0.drop p) ++ (qI ((s0.drop p).drop (wdB (s0.drop p))) ++ 34 :: tl) := by
  obtain ⟨p, h0, h1, h2⟩ := h s0 tl e
  have hs : s0.drop p ≠ [] := fun g => by
    rw [g] at h2
    apply hi
    rw [← drop_at0, h2]
    rfl
  rw [qI_step hs, List.append_assoc] at h2
  exact ⟨p, h0, h1, hs, h2⟩
theorem inv_zero {l q x : List UInt8} {i : Nat} (h : InvR l i q) (hi : at0 l i ≠ 34) (ho : OneQ (l.drop i) x 0) : NoneR l := fun s0 tl e => by
  obtain ⟨p, _, _, hs, h2⟩ := inv_at h hi e
  have := (ho.can _ _ hs h2).2
  have := pcB_len (s := s0.drop p)
  omega
theorem inv_step {l q x : List UInt8} {i k : Nat} (h : InvR l i q) (hi : at0 l i ≠ 34) (ho : OneQ (l.drop i) x k) : InvR l (i + k) (q ++ x) := fun s0 tl e => by
  obtain ⟨p, h0, h1, hs, h2⟩ := inv_at h hi e
  obtain ⟨h3, h4⟩ := ho.can _ _ hs h2
  have hw := wdB_pos hs
  rw [List.length_drop] at hw
  refine ⟨p + wdB (s0.drop p), by omega, ?_, ?_⟩
  · rw [h1, h3, List.take_add]
  · rw [← List.drop_drop, h2, h4, List.drop_left' rfl, List.drop_drop]
/-- What reads a text that is told tells. -/
def RdQ (l s : List UInt8) (n e : Nat) : Prop := (e = 0 ∧ ∃ tl, l = Qt s ++ tl ∧ n = (Qt s).length) ∨ (e = 3 ∧ s = [] ∧ n = 0 ∧ NoneR l)
theorem rd_yes {l q : List UInt8} {i : Nat} (hi : i < l.length) (h : Qt q = l.take (i + 1)) : RdQ l q (i + 1) 0 :=
  .inl ⟨rfl, l.drop (i + 1), by rw [h, List.take_append_drop], by rw [h, List.length_take]; omega⟩
theorem one_ex {u : List UInt8} (h : u ≠ []) : ∃ x k, OneQ u x k := by
  by_cases h92 : at0 u 0 = 92
  · match u, h, h92 with
    | [c], _, h92 => exact ⟨_, _, one_short h92 (by simp)⟩
    | a :: c :: r, _, h92 =>
      have ha : a = 92 := UInt8.toNat_inj.1 h92
      subst ha
      by_cases h1 : c = 34
      · exact ⟨_, _, one_pair (d := 34) (.inl ⟨h1, rfl⟩)⟩
      · by_cases h2 : c = 92
        · exact ⟨_, _, one_pair (d := 92) (.inr (.inl ⟨h2, rfl⟩))⟩
        · by_cases h3 : c = 110
          · exact ⟨_, _, one_pair (d := 10) (.inr (.inr (.inl ⟨h3, rfl⟩)))⟩
          · by_cases h4 : c = 116
            · exact ⟨_, _, one_pair (d := 9) (.inr (.inr (.inr (.inl ⟨h4, rfl⟩))))⟩
            · by_cases h5 : c = 48
              · exact ⟨_, _, one_pair (d := 0) (.inr (.inr (.inr (.inr ⟨h5, rfl⟩))))⟩
              · by_cases h6 : c = 120
                · subst h6
                  cases hv : hexP r 2 with
                  | none => exact ⟨_, _, one_x0 hv⟩
                  | some v => exact ⟨_, _, one_x hv⟩
                · by_cases h7 : c = 117
                  · subst h7
                    cases hv : hexP r 4 with
                    | none => exact ⟨_, _, one_u0 hv⟩
                    | some v => exact ⟨_, _, one_u hv (x := enc v) (fun _ => rfl) (List.length_pos_iff.1 enc_len1.1) (by have := enc_len1 (r := v); omega)⟩
                  · exact ⟨_, _, one_other h1 h2 h3 h4 h5 h6 h7⟩
  · exact ⟨_, _, one_raw h h92⟩
theorem qI_inj : ∀ (n : Nat) (s s' t t' : List UInt8), s.length ≤ n → qI s ++ 34 :: t = qI s' ++ 34 :: t' → s = s'
  | n, [], s', t, t', _, e => by
    by_cases hs : s' = []
    · exact hs.symm
    · rw [qI_step hs, List.append_assoc] at e
      have := pc_head (t := qI (s'.drop (wdB s')) ++ 34 :: t') hs
      rw [← e] at this
      exact absurd rfl this
  | 0, _ :: _, _, _, _, h, _ => by simp at h
  | n + 1, a :: s, s', t, t', h, e => by
    have hne : a :: s ≠ [] := by simp
    by_cases hs : s' = []
    · rw [hs, qI_step hne, List.append_assoc] at e
      have := pc_head (t := qI ((a :: s).drop (wdB (a :: s))) ++ 34 :: t) hne
      rw [e] at this
      exact absurd rfl this
    · rw [qI_step hne, qI_step hs, List.append_assoc, List.append_assoc] at e
      have hu : pcB (a :: s) ++ (qI ((a :: s).drop (wdB (a :: s))) ++ 34 :: t) ≠ [] := fun g => by
        have := congrArg List.length g
        simp at this
      obtain ⟨x, k, ho⟩ := one_ex hu
      obtain ⟨h1, h2⟩ := ho.can _ _ hne rfl
      obtain ⟨h3, h4⟩ := ho.can _ _ hs e
      have h5 := (List.append_inj e (h2.symm.trans h4)).2
      have hw := wdB_pos hne
      have h6 := qI_inj n _ _ _ _ (by rw [List.length_drop]; simp only [List.length_cons] at h hw ⊢; omega) h5
      rw [← List.take_append_drop (wdB (a :: s)) (a :: s), ← List.take_append_drop (wdB s') s', ← h1, ← h3, h6]
theorem Qt_inj {s s' t t' : List UInt8} (h : Qt s ++ t = Qt s' ++ t') : s = s' := by
  rw [Qt_app, Qt_app] at h
  exact qI_inj _ _ _ _ _ (Nat.le_refl _) (List.cons.inj h).2
theorem RdQ.unique {l s s' : List UInt8} {n n' e e' : Nat} (h : RdQ l s n e) (g : RdQ l s' n' e') : s = s' ∧ n = n' ∧ e = e' := by
  rcases h with ⟨rfl, tl, h1, rfl⟩ | ⟨rfl, rfl, rfl, h1⟩ <;> rcases g with ⟨rfl, tl', g1, rfl⟩ | ⟨rfl, rfl, rfl, g1⟩
  · obtain rfl := Qt_inj (h1.symm.trans g1)
    exact ⟨rfl, rfl, rfl⟩
  · exact absurd h1 (g1 _ _)
  · exact absurd g1 (h1 _ _)
  · exact ⟨rfl, rfl, rfl⟩
end Go.Mo
