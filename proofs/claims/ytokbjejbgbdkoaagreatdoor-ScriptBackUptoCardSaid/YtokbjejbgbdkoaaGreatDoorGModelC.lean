/-
  Commands out of a line, in plain words: no program in sight.
-/
import Derived.Test.YtokbjejbgbdkoaaGreatDoorGModelU
import Derived.Lib.Atoi
import Derived.Lib.Strings
import Derived.Lib.SlTrimSet
import Derived.Lib.SplitLaws
import Derived.Lib.ItoaNum
set_option linter.unusedVariables false
set_option linter.unusedSimpArgs false
set_option maxRecDepth 100000
namespace Go.Mo
open Go Go.Sl
/-- The first place that p asks for, or the end. -/
def fstN (p : UInt8 → Bool) : List UInt8 → Nat
  | [] => 0
  | c :: r => if p c = true then 0 else fstN p r + 1
theorem first_fstN {q : UInt8 → Prop} {p : UInt8 → Bool} (hq : ∀ c, p c = true ↔ q c) : ∀ l, First q l (fstN p l)
  | [] => ⟨Nat.le_refl _, fun k hk _ => absurd hk (Nat.not_lt_zero _), fun hn => absurd hn (Nat.not_lt_zero _)⟩
  | c :: r => by
    unfold fstN
    split
    · rename_i h
      exact ⟨Nat.zero_le _, fun k _ hk => absurd hk (Nat.not_lt_zero _), fun _ => (hq c).1 h⟩
    · rename_i h
      have ih := first_fstN hq r
      refine ⟨Nat.succ_le_succ ih.le, fun k hk hkn => ?_, fun hn => ?_⟩
      · cases k with
        | zero => exact fun g => h ((hq c).2 g)
        | succ k => exact ih.no k (Nat.lt_of_succ_lt_succ hk) (Nat.lt_of_succ_lt_succ hkn)
      · exact ih.yes (Nat.lt_of_succ_lt_succ hn)
def blankB (c : UInt8) : Bool := c == 32 || c == 9
def stopB (c : UInt8) : Bool := c == 32 || c == 9 || c == 10
theorem u8_is {c : UInt8} {n : Nat} (hn : n < 256) : (c == UInt8.ofNat n) = true ↔ c.toNat = n := by
  rw [beq_iff_eq]
  constructor
  · rintro rfl; exact UInt8.toNat_ofNat_of_lt' hn
  · intro h; rw [← h, UInt8.ofNat_toNat]
theorem blankB_iff (c : UInt8) : blankB c = true ↔ blankL c := by
  unfold blankB blankL
  rw [Bool.or_eq_true]
  exact or_congr (u8_is (n := 32) (by omega)) (u8_is (n := 9) (by omega))
theorem stopB_iff (c : UInt8) : stopB c = true ↔ stopL c := by
  unfold stopB stopL
  rw [Bool.or_eq_true, Bool.or_eq_true]
  exact or_congr (or_congr (u8_is (n := 32) (by omega)) (u8_is (n := 9) (by omega))) (u8_is (n := 10) (by omega))
/-- How many blanks stand ahead. -/
def lead (l : List UInt8) : Nat := fstN (fun c => !blankB c) l
def dropB (l : List UInt8) : List UInt8 := l.drop (lead l)
theorem first_lead (l : List UInt8) : First (fun c => ¬ blankL c) l (lead l) := first_fstN (fun c => by rw [← blankB_iff]; simp) l
theorem dropB_eq : ∀ l, Lib.trimLeftS l [32, 9] = dropB l
  | [] => rfl
  | c :: r => by
    show List.dropWhile (fun c => ([32, 9] : List UInt8).contains c) (c :: r) = List.drop (if (!blankB c) = true then 0 else lead r + 1) (c :: r)
    have e : ([32, 9] : List UInt8).contains c = blankB c := by
      unfold blankB
      simp [List.contains_cons]
      rfl
    rw [List.dropWhile_cons, e]
    cases h : blankB c with
    | true => simp only [if_true, Bool.not_true, Bool.false_eq_true, if_false, List.drop_succ_cons]; exact dropB_eq r
    | false => simp
/-- The first word, and the rest. -/
def wordF (l : List UInt8) : List UInt8 × List UInt8 := ((dropB l).take (fstN stopB (dropB l)), (dropB l).drop (fstN stopB (dropB l)))
theorem word_f {l a b : List UInt8} (h : WordQ l a b) : a = (wordF l).1 ∧ b = (wordF l).2 := by
  have h2 : WordQ l (wordF l).1 (wordF l).2 := ⟨lead l, fstN stopB (dropB l), first_lead l, first_fstN stopB_iff _, rfl, by show (l.drop _).drop _ = _; rw [List.drop_drop]⟩
  exact h.unique h2
theorem word_len (l : List UInt8) : (wordF l).1.length ≤ l.length ∧ (wordF l).2.length ≤ l.length := by
  unfold wordF dropB
  simp only [List.length_take, List.length_drop]
  omega
def NoNl (l : List UInt8) : Prop := ∀ c ∈ l, c ≠ 10
theorem NoNl.drop {l : List UInt8} (h : NoNl l) (n : Nat) : NoNl (l.drop n) := fun c hc => h c (List.mem_of_mem_drop hc)
theorem NoNl.rest {l : List UInt8} (h : NoNl l) : NoNl (wordF l).2 := (h.drop _).drop _
def trimM (w : List UInt8) : List UInt8 := if w.head? = some 45 then w.tail else w
theorem trimM_eq (w : List UInt8) : Lib.trimPrefix w [45] = trimM w := by
  unfold Lib.trimPrefix Lib.hasPrefix trimM
  cases w with
  | nil => rfl
  | cons c r =>
    by_cases h : c = 45
    · subst h; rfl
    · have : (([45] : List UInt8).isPrefixOf (c :: r)) = false := by
        simp [List.isPrefixOf]
        exact fun g => h g.symm
      rw [this]
      simp [h]
/-- A word's number. -/
def numP (w : List UInt8) : Option Int :=
  if trimM w = [] ∨ 9 < (trimM w).length then none else (Lib.decFrom 0 (trimM w)).map fun (m : Nat) => if w.head? = some 45 then -(m : Int) else (m : Int)
theorem numP_atoi {w : List UInt8} {v : Int} (h : numP w = some v) : Lib.atoi w = some v ∧ w.length ≤ 10 := by
  unfold numP at h
  split at h
  · cases h
  · rename_i hc
    rw [Option.map_eq_some_iff] at h
    obtain ⟨m, hm, rfl⟩ := h
    have hlen : w.length ≤ 10 := by
      unfold trimM at hc
      split at hc
      · rw [List.length_tail] at hc; omega
      · omega
    refine ⟨?_, hlen⟩
    cases w with
    | nil => exact absurd (.inl rfl) hc
    | cons c r =>
      by_cases hm45 : c = 45
      · subst hm45
        have hd : Lib.decFrom 0 r = some m := hm
        have hr : r ≠ [] := fun g => hc (.inl g)
        show (Lib.decNat r).map _ = _
        unfold Lib.decNat
        rw [if_neg (by simpa using hr), hd]
        rfl
      · have ht : trimM (c :: r) = c :: r := by unfold trimM; rw [if_neg (by simpa using hm45)]
        rw [ht] at hm
        obtain ⟨d, hd⟩ := Lib.digit_of_decFrom _ _ _ hm 0 c rfl
        have hd := Lib.digitVal_eq hd
        have h43 : (c == 43) = false := by rw [beq_eq_false_iff_ne]; rintro rfl; exact absurd hd.1 (by decide)
        have h45 : (c == 45) = false := by rw [beq_eq_false_iff_ne]; exact hm45
        show (if c == 45 then _ else if c == 43 then _ else (Lib.decNat (c :: r)).map _) = _
        rw [h45, h43]
        simp only [Bool.false_eq_true, if_false]
        unfold Lib.decNat
        rw [if_neg (by simp), hm]
        simp [hm45]
/-- So many numbers, and what is left. -/
def numsF : Nat → List UInt8 → Option (List Int × List UInt8)
  | 0, t => some ([], t)
  | n + 1, t => match numP (wordF t).1 with
    | none => none
    | some v => (numsF n (wordF t).2).map fun x => (v :: x.1, x.2)
/-- A command: the letter of its kind, its numbers, its data. -/
structure Cm where
  kind : Nat
  a : Int
  b : Int
  data : List UInt8
open Classical in
/-- What a text that is told tells, and how long it is told. -/
noncomputable def rdF (l : List UInt8) : Option (List UInt8 × Nat) := if h : ∃ x : List UInt8 × Nat, RdQ l x.1 x.2 0 then some (Classical.choose h) else none
theorem rd_some {l s : List UInt8} {n : Nat} (h : RdQ l s n 0) : rdF l = some (s, n) := by
  have hex : ∃ x : List UInt8 × Nat, RdQ l x.1 x.2 0 := ⟨(s, n), h⟩
  unfold rdF
  rw [dif_pos hex]
  have := (Classical.choose_spec hex).unique h
  exact congrArg some (Prod.ext this.1 this.2.1)
theorem rd_none {l s : List UInt8} {n e : Nat} (h : RdQ l s n e) (he : e ≠ 0) : rdF l = none := by
  unfold rdF
  rw [dif_neg]
  rintro ⟨x, hx⟩
  exact he (h.unique hx).2.2
/-- A command of some numbers. -/
def restF (k n : Nat) (r : List UInt8) : Option Cm := match numsF n r with
  | some (l, r2) => if (wordF r2).1 = [] then some ⟨k, l.getD 0 0, l.getD 1 0, []⟩ else none
  | none => none
noncomputable def writeF (r : List UInt8) : Option Cm := match numsF 2 r with
  | some (l, r2) => match rdF (dropB r2) with
    | some (s, n) => if (wordF ((dropB r2).drop n)).1 = [] then some ⟨119, l.getD 0 0, l.getD 1 0, s⟩ else none
    | none => none
  | none => none
def wWrite : List UInt8 := [119, 114, 105, 116, 101]
def wRead : List UInt8 := [114, 101, 97, 100]
def wTrim : List UInt8 := [116, 114, 105, 109]
def wCut : List UInt8 := [99, 117, 116]
def wFail : List UInt8 := [102, 97, 105, 108]
def wMount : List UInt8 := [109, 111, 117, 110, 116]
def wShow : List UInt8 := [115, 104, 111, 119]
def wStat : List UInt8 := [115, 116, 97, 116]
/-- A line's command. -/
noncomputable def lineF (l : List UInt8) : Option Cm :=
  if (wordF l).1 = wWrite then writeF (wordF l).2
  else if (wordF l).1 = wRead then restF 114 2 (wordF l).2
  else if (wordF l).1 = wTrim then restF 116 2 (wordF l).2
  else if (wordF l).1 = wCut then restF 99 1 (wordF l).2
  else if (wordF l).1 = wFail then restF 102 1 (wordF l).2
  else if (wordF l).1 = wMount then (if (wordF (wordF l).2).1 = [] then some ⟨109, -1, 0, []⟩ else restF 109 1 (wordF l).2)
  else if (wordF l).1 = wShow then restF 115 0 (wordF l).2
  else if (wordF l).1 = wStat then restF 105 0 (wordF l).2 else none
end Go.Mo
namespace Go.Mo
open Go Go.Sl
theorem nums_next {n i : Nat} {t s : List UInt8} {acc : List Int} {v : Int} (hi : i < n) (h : numsF n t = (numsF (n - i) s).map fun x => (acc ++ x.1, x.2)) (hv : numP (wordF s).1 = some v) :
    numsF n t = (numsF (n - (i + 1)) (wordF s).2).map fun x => ((acc ++ [v]) ++ x.1, x.2) := by
  obtain ⟨k, hk⟩ : ∃ k, n - i = k + 1 := ⟨n - i - 1, by omega⟩
  rw [h, hk, show n - (i + 1) = k from by omega]
  show ((match numP (wordF s).1 with | none => none | some v => (numsF k (wordF s).2).map fun x => (v :: x.1, x.2)) : Option _).map _ = _
  rw [hv]
  dsimp only
  rw [Option.map_map]
  congr 1
  funext x
  simp
theorem nums_bad {n i : Nat} {t s : List UInt8} {acc : List Int} (hi : i < n) (h : numsF n t = (numsF (n - i) s).map fun x => (acc ++ x.1, x.2)) (hv : numP (wordF s).1 = none) : numsF n t = none := by
  obtain ⟨k, hk⟩ : ∃ k, n - i = k + 1 := ⟨n - i - 1, by omega⟩
  rw [h, hk]
  show ((match numP (wordF s).1 with | none => none | some v => (numsF k (wordF s).2).map fun x => (v :: x.1, x.2)) : Option _).map _ = _
  rw [hv]
  rfl
theorem nums_end {n i : Nat} {t s : List UInt8} {acc : List Int} (hi : i = n) (h : numsF n t = (numsF (n - i) s).map fun x => (acc ++ x.1, x.2)) : numsF n t = some (acc, s) := by
  subst hi
  rw [h, Nat.sub_self]
  show some (acc ++ [], s) = _
  rw [List.append_nil]
theorem nums_len : ∀ (n : Nat) (t : List UInt8) (acc : List Int) (r : List UInt8), numsF n t = some (acc, r) → acc.length = n
  | 0, t, acc, r, h => by cases h; rfl
  | n + 1, t, acc, r, h => by
    unfold numsF at h
    split at h
    · cases h
    · rw [Option.map_eq_some_iff] at h
      obtain ⟨x, h1, h2⟩ := h
      cases h2
      rw [List.length_cons, nums_len n _ x.1 x.2 h1]
theorem two_acc {acc : List Int} (h : acc.length = 2) : ∃ x y, acc = [x, y] := by
  match acc, h with
  | [x, y], _ => exact ⟨x, y, rfl⟩
theorem one_acc {acc : List Int} (h : acc.length = 1) : ∃ x, acc = [x] := by
  match acc, h with
  | [x], _ => exact ⟨x, rfl⟩
/-- Which command a word begins: the letter, how many numbers; 0: none. -/
def KindQ (l : List UInt8) (many kind : Nat) : Prop :=
  (wordF l).1 ≠ wWrite ∧ ((kind = 114 ∧ (wordF l).1 = wRead ∧ many = 2) ∨ (kind = 116 ∧ (wordF l).1 = wTrim ∧ many = 2) ∨ (kind = 99 ∧ (wordF l).1 = wCut ∧ many = 1) ∨ (kind = 102 ∧ (wordF l).1 = wFail ∧ many = 1) ∨
    (kind = 109 ∧ (wordF l).1 = wMount ∧ many = 1 ∧ (wordF (wordF l).2).1 ≠ []) ∨
    (many = 0 ∧ (wordF l).1 ≠ wRead ∧ (wordF l).1 ≠ wTrim ∧ (wordF l).1 ≠ wCut ∧ (wordF l).1 ≠ wFail ∧ (wordF l).1 ≠ wMount ∧
      ((kind = 115 ∧ (wordF l).1 = wShow) ∨ (kind = 105 ∧ (wordF l).1 = wStat) ∨ (kind = 0 ∧ (wordF l).1 ≠ wShow ∧ (wordF l).1 ≠ wStat))))
theorem line_kind {l : List UInt8} {many kind : Nat} (h : KindQ l many kind) : (kind ≠ 0 ∧ lineF l = restF kind many (wordF l).2) ∨ (kind = 0 ∧ lineF l = none) := by
  obtain ⟨h0, h⟩ := h
  unfold lineF
  rw [if_neg h0]
  rcases h with ⟨rfl, h, rfl⟩ | ⟨rfl, h, rfl⟩ | ⟨rfl, h, rfl⟩ | ⟨rfl, h, rfl⟩ | ⟨rfl, h, rfl, h6⟩ | ⟨rfl, h1, h2, h3, h4, h5, ⟨rfl, h⟩ | ⟨rfl, h⟩ | ⟨rfl, h6, h7⟩⟩
  · left; rw [if_pos h]; exact ⟨by omega, rfl⟩
  · left; rw [h, if_neg (by decide), if_pos rfl]; exact ⟨by omega, rfl⟩
  · left; rw [h, if_neg (by decide), if_neg (by decide), if_pos rfl]; exact ⟨by omega, rfl⟩
  · left; rw [h, if_neg (by decide), if_neg (by decide), if_neg (by decide), if_pos rfl]; exact ⟨by omega, rfl⟩
  · left; rw [if_neg (by rw [h]; decide), if_neg (by rw [h]; decide), if_neg (by rw [h]; decide), if_neg (by rw [h]; decide), if_pos h, if_neg h6]; exact ⟨by omega, rfl⟩
  · left; rw [if_neg h1, if_neg h2, if_neg h3, if_neg h4, if_neg h5, if_pos h]; exact ⟨by omega, rfl⟩
  · left; rw [if_neg h1, if_neg h2, if_neg h3, if_neg h4, if_neg h5, if_neg (by rw [h]; decide), if_pos h]; exact ⟨by omega, rfl⟩
  · right; rw [if_neg h1, if_neg h2, if_neg h3, if_neg h4, if_neg h5, if_neg h6, if_neg h7]; exact ⟨rfl, rfl⟩
theorem line_none {l : List UInt8} {many kind : Nat} (h : KindQ l many kind) (hn : numsF many (wordF l).2 = none) : lineF l = none := by
  rcases line_kind h with ⟨_, h⟩ | ⟨_, h⟩
  · rw [h]; unfold restF; rw [hn]
  · exact h
theorem line_left {l r2 : List UInt8} {acc : List Int} {many kind : Nat} (h : KindQ l many kind) (hn : numsF many (wordF l).2 = some (acc, r2)) (he : (wordF r2).1 ≠ []) : lineF l = none := by
  rcases line_kind h with ⟨_, h⟩ | ⟨_, h⟩
  · rw [h]; unfold restF; rw [hn]; exact if_neg he
  · exact h
theorem line_yes {l r2 : List UInt8} {acc : List Int} {many kind : Nat} (h : KindQ l many kind) (hk : kind ≠ 0) (hn : numsF many (wordF l).2 = some (acc, r2)) (he : (wordF r2).1 = []) : lineF l = some ⟨kind, acc.getD 0 0, acc.getD 1 0, []⟩ := by
  rcases line_kind h with ⟨_, h⟩ | ⟨h, _⟩
  · rw [h]; unfold restF; rw [hn]; exact if_pos he
  · exact absurd h hk
theorem line_unknown {l : List UInt8} {many : Nat} (h : KindQ l many 0) : lineF l = none := by
  rcases line_kind h with ⟨h, _⟩ | ⟨_, h⟩
  · exact absurd rfl h
  · exact h
theorem kind_of {l : List UInt8} {many kind : Nat} (h : KindQ l many kind) :
    ((wordF l).1 = wRead → kind = 114 ∧ many = 2) ∧ ((wordF l).1 = wTrim → kind = 116 ∧ many = 2) ∧ ((wordF l).1 = wCut → kind = 99 ∧ many = 1) ∧ ((wordF l).1 = wFail → kind = 102 ∧ many = 1) ∧ ((wordF l).1 = wMount → kind = 109 ∧ many = 1) ∧
    ((wordF l).1 = wShow → kind = 115) ∧ ((wordF l).1 = wStat → kind = 105) ∧
    ((wordF l).1 ≠ wRead → (wordF l).1 ≠ wTrim → (wordF l).1 ≠ wCut → (wordF l).1 ≠ wFail → (wordF l).1 ≠ wMount → (wordF l).1 ≠ wShow → (wordF l).1 ≠ wStat → kind = 0) := by
  obtain ⟨h0, h⟩ := h
  generalize (wordF l).1 = w at h0 h ⊢
  rcases h with ⟨rfl, rfl, rfl⟩ | ⟨rfl, rfl, rfl⟩ | ⟨rfl, rfl, rfl⟩ | ⟨rfl, rfl, rfl⟩ | ⟨rfl, rfl, rfl, h6⟩ | ⟨rfl, h1, h2, h3, h4, h5, ⟨rfl, rfl⟩ | ⟨rfl, rfl⟩ | ⟨rfl, h6, h7⟩⟩
  all_goals refine ⟨fun g => ?_, fun g => ?_, fun g => ?_, fun g => ?_, fun g => ?_, fun g => ?_, fun g => ?_, fun g1 g2 g3 g4 g5 g6 g7 => ?_⟩
  all_goals first | exact ⟨rfl, rfl⟩ | rfl | (exact absurd rfl (by assumption)) | (exact absurd g (by decide)) | (exact absurd g (by assumption))
theorem write_none {r : List UInt8} (h : numsF 2 r = none) : writeF r = none := by unfold writeF; rw [h]
theorem write_bad {r r2 s : List UInt8} {acc : List Int} {n e : Nat} (h : numsF 2 r = some (acc, r2)) (hr : RdQ (dropB r2) s n e) (he : e ≠ 0) : writeF r = none := by
  unfold writeF
  rw [h]
  dsimp only
  rw [rd_none hr he]
theorem write_good {r r2 s : List UInt8} {acc : List Int} {n : Nat} (h : numsF 2 r = some (acc, r2)) (hr : RdQ (dropB r2) s n 0) : writeF r = if (wordF ((dropB r2).drop n)).1 = [] then some ⟨119, acc.getD 0 0, acc.getD 1 0, s⟩ else none := by
  unfold writeF
  rw [h]
  dsimp only
  rw [rd_some hr]
theorem rd_le {l s : List UInt8} {n e : Nat} (h : RdQ l s n e) : n ≤ l.length := by
  rcases h with ⟨_, tl, h1, h2⟩ | ⟨_, _, h, _⟩
  · rw [h1, h2, List.length_append]; omega
  · omega
theorem dropB_len (l : List UInt8) : (dropB l).length ≤ l.length := by unfold dropB; rw [List.length_drop]; omega
end Go.Mo
set_option maxRecDepth 100000
namespace Go.Mo
open Go Go.Sl
/-- A text, cut at each end of a line. -/
def cutsF : List UInt8 → List (List UInt8)
  | [] => [[]]
  | c :: r => if c = 10 then [] :: cutsF r else match cutsF r with
    | x :: xs => (c :: x) :: xs
    | [] => [[c]]
theorem cutsF_ne : ∀ l, cutsF l ≠ []
  | [] => by simp [cutsF]
  | c :: r => by
    unfold cutsF
    split
    · simp
    · split <;> simp
theorem cutsF_index : ∀ l : List UInt8, (Lib.index l [10] = -1 → cutsF l = [l] ∧ l.count 10 = 0) ∧ (∀ i : Nat, Lib.index l [10] = i → cutsF l = l.take i :: cutsF (l.drop (i + 1)) ∧ l.count 10 = (l.drop (i + 1)).count 10 + 1)
  | [] => ⟨fun _ => ⟨rfl, rfl⟩, fun i h => by
      have h : (-1 : Int) = i := h
      omega⟩
  | c :: r => by
    have ih := cutsF_index r
    by_cases hc : c = 10
    · subst hc
      have e : Lib.index (10 :: r) [10] = 0 := by unfold Lib.index; rw [if_pos (by simp [List.isPrefixOf])]
      refine ⟨fun h => by rw [e] at h; omega, fun i h => ?_⟩
      rw [e] at h
      obtain rfl : i = 0 := by omega
      exact ⟨show cutsF (10 :: r) = [] :: cutsF r from if_pos rfl, by rw [List.count_cons_self]; rfl⟩
    · have e : Lib.index (c :: r) [10] = if Lib.index r [10] == -1 then -1 else Lib.index r [10] + 1 := by
        conv => lhs; unfold Lib.index
        rw [if_neg (by simp [List.isPrefixOf]; exact fun h => hc h.symm)]
      have e2 : cutsF (c :: r) = match cutsF r with | x :: xs => (c :: x) :: xs | [] => [[c]] := by
        conv => lhs; unfold cutsF
        rw [if_neg hc]
      have e3 : (c :: r).count 10 = r.count 10 := List.count_cons_of_ne hc
      refine ⟨fun h => ?_, fun i h => ?_⟩
      · rw [e] at h
        have h1 : Lib.index r [10] = -1 := by
          split at h
          · rename_i g; simpa using g
          · have := Lib.index_ge r [10]; omega
        rw [e2, (ih.1 h1).1, e3]
        exact ⟨rfl, (ih.1 h1).2⟩
      · rw [e] at h
        split at h
        · omega
        · rename_i g
          have g : Lib.index r [10] ≠ -1 := by simpa using g
          have := Lib.index_ge r [10]
          obtain ⟨j, hj⟩ := Int.eq_ofNat_of_zero_le (show 0 ≤ Lib.index r [10] by omega)
          obtain rfl : i = j + 1 := by omega
          obtain ⟨h1, h2⟩ := ih.2 j hj
          rw [e2, h1, e3]
          exact ⟨rfl, h2⟩
theorem splitK_cuts : ∀ (k : Nat) (l : List UInt8), l.count 10 ≤ k → Lib.splitK [10] 0 k l = cutsF l
  | 0, l, h => by
    have hi : Lib.index l [10] = -1 := by
      rcases Int.lt_or_le (Lib.index l [10]) 0 with g | g
      · have := Lib.index_ge l [10]; omega
      · obtain ⟨j, hj⟩ := Int.eq_ofNat_of_zero_le g
        have := ((cutsF_index l).2 j hj).2
        omega
    rw [((cutsF_index l).1 hi).1]
    rfl
  | k + 1, l, h => by
    unfold Lib.splitK
    split
    · rename_i g
      rw [((cutsF_index l).1 (by simpa using g)).1]
    · rename_i g
      have g : Lib.index l [10] ≠ -1 := by simpa using g
      have := Lib.index_ge l [10]
      obtain ⟨j, hj⟩ := Int.eq_ofNat_of_zero_le (show 0 ≤ Lib.index l [10] by omega)
      obtain ⟨h1, h2⟩ := (cutsF_index l).2 j hj
      rw [h1, hj]
      show l.take (j + 0) :: Lib.splitK [10] 0 k (l.drop (j + 1)) = _
      rw [Nat.add_zero, splitK_cuts k _ (by omega)]
theorem cutsF_mem : ∀ (l x : List UInt8), x ∈ cutsF l → x.length ≤ l.length ∧ NoNl x
  | [], x, h => by
    unfold cutsF at h
    rw [List.mem_singleton] at h
    subst h
    exact ⟨Nat.le_refl _, fun c hc => by cases hc⟩
  | c :: r, x, h => by
    unfold cutsF at h
    split at h
    · rcases List.mem_cons.1 h with rfl | h
      · exact ⟨Nat.zero_le _, fun c hc => by cases hc⟩
      · have := cutsF_mem r x h
        exact ⟨by rw [List.length_cons]; omega, this.2⟩
    · rename_i hc
      cases hq : cutsF r with
      | nil => exact absurd hq (cutsF_ne r)
      | cons y ys =>
        rw [hq] at h
        rcases List.mem_cons.1 h with rfl | h
        · have := cutsF_mem r y (by rw [hq]; exact List.mem_cons_self ..)
          refine ⟨by simp only [List.length_cons]; omega, fun d hd => ?_⟩
          rcases List.mem_cons.1 hd with rfl | hd
          · exact hc
          · exact this.2 d hd
        · have := cutsF_mem r x (by rw [hq]; exact List.mem_cons_of_mem _ h)
          exact ⟨by rw [List.length_cons]; omega, this.2⟩
/-- A text's lines. -/
def linesF (t : List UInt8) : List (List UInt8) := if (cutsF t).getLast (cutsF_ne t) = [] then (cutsF t).dropLast else cutsF t
theorem linesF_mem {t x : List UInt8} (h : x ∈ linesF t) : x.length ≤ t.length ∧ NoNl x := by
  unfold linesF at h
  split at h
  · exact cutsF_mem t x ((List.dropLast_subset _) h)
  · exact cutsF_mem t x h
/-- Is a line passed over? -/
def SkipQ (l : List UInt8) : Prop := (wordF l).1 = [] ∨ at0 (wordF l).1 0 = 35
instance (l : List UInt8) : Decidable (SkipQ l) := by unfold SkipQ; exact inferInstance
/-- The commands of some lines, or the first line that is none. -/
noncomputable def parsG : Nat → List (List UInt8) → Nat ⊕ List Cm
  | _, [] => .inr []
  | i, l :: ls => if SkipQ l then parsG (i + 1) ls else match lineF l with
    | none => .inl (i + 1)
    | some c => match parsG (i + 1) ls with
      | .inl k => .inl k
      | .inr cs => .inr (c :: cs)
def mapR (acc : List Cm) : Nat ⊕ List Cm → Nat ⊕ List Cm
  | .inl k => .inl k
  | .inr cs => .inr (acc ++ cs)
theorem mapR_nil (x : Nat ⊕ List Cm) : mapR [] x = x := by cases x <;> rfl
theorem pars_skip {ls : List (List UInt8)} {i : Nat} {acc : List Cm} {R : Nat ⊕ List Cm} (hi : i < ls.length) (h : R = mapR acc (parsG i (ls.drop i))) (hs : SkipQ ls[i]) : R = mapR acc (parsG (i + 1) (ls.drop (i + 1))) := by
  rw [List.drop_eq_getElem_cons hi] at h
  rw [h]
  conv => lhs; unfold parsG
  rw [if_pos hs]
theorem pars_bad {ls : List (List UInt8)} {i : Nat} {acc : List Cm} {R : Nat ⊕ List Cm} (hi : i < ls.length) (h : R = mapR acc (parsG i (ls.drop i))) (hs : ¬ SkipQ ls[i]) (hl : lineF ls[i] = none) : R = .inl (i + 1) := by
  rw [List.drop_eq_getElem_cons hi] at h
  rw [h]
  conv => lhs; unfold parsG
  rw [if_neg hs, hl]
  rfl
theorem pars_good {ls : List (List UInt8)} {i : Nat} {acc : List Cm} {R : Nat ⊕ List Cm} {c : Cm} (hi : i < ls.length) (h : R = mapR acc (parsG i (ls.drop i))) (hs : ¬ SkipQ ls[i]) (hl : lineF ls[i] = some c) : R = mapR (acc ++ [c]) (parsG (i + 1) (ls.drop (i + 1))) := by
  rw [List.drop_eq_getElem_cons hi] at h
  rw [h]
  conv => lhs; unfold parsG
  rw [if_neg hs, hl]
  dsimp only
  cases parsG (i + 1) (ls.drop (i + 1)) with
  | inl k => rfl
  | inr cs => show Sum.inr (acc ++ (c :: cs)) = Sum.inr ((acc ++ [c]) ++ cs); simp
theorem pars_end {ls : List (List UInt8)} {i : Nat} {acc : List Cm} {R : Nat ⊕ List Cm} (hi : ls.length ≤ i) (h : R = mapR acc (parsG i (ls.drop i))) : R = .inr acc := by
  rw [h, List.drop_eq_nil_of_le hi]
  show Sum.inr (acc ++ []) = _
  rw [List.append_nil]
/-- What reads a text tells: the commands, the line of a fault, the error. -/
def ParseQ (t : List UInt8) (cs : List Cm) (n e : Nat) : Prop :=
  ((16384 < t.length ∨ 1000 < (linesF t).length) ∧ cs = [] ∧ n = 0 ∧ e = 2) ∨
  (¬ (16384 < t.length ∨ 1000 < (linesF t).length) ∧ ((parsG 0 (linesF t) = .inl n ∧ cs = [] ∧ e = 3) ∨ (parsG 0 (linesF t) = .inr cs ∧ n = 0 ∧ e = 0)))
theorem ParseQ.unique {t : List UInt8} {cs cs' : List Cm} {n n' e e' : Nat} (h : ParseQ t cs n e) (g : ParseQ t cs' n' e') : cs = cs' ∧ n = n' ∧ e = e' := by
  rcases h with ⟨h0, rfl, rfl, rfl⟩ | ⟨h0, ⟨h1, rfl, rfl⟩ | ⟨h1, rfl, rfl⟩⟩ <;> rcases g with ⟨g0, rfl, rfl, rfl⟩ | ⟨g0, ⟨g1, rfl, rfl⟩ | ⟨g1, rfl, rfl⟩⟩
  · exact ⟨rfl, rfl, rfl⟩
  · exact absurd h0 g0
  · exact absurd h0 g0
  · exact absurd g0 h0
  · rw [h1] at g1; cases g1; exact ⟨rfl, rfl, rfl⟩
  · rw [h1] at g1; cases g1
  · exact absurd g0 h0
  · rw [h1] at g1; cases g1
  · rw [h1] at g1; cases g1; exact ⟨rfl, rfl, rfl⟩
end Go.Mo
set_option maxRecDepth 100000
namespace Go.Mo
open Go Go.Sl
theorem itoa_pos (m : Nat) : Lib.itoa (m : Int) = Lib.decDigits m := by
  unfold Lib.itoa
  rw [if_neg (by omega), Int.toNat_natCast]
theorem itoa_neg {m : Nat} (h : 0 < m) : Lib.itoa (-(m : Int)) = 45 :: Lib.decDigits m := by
  unfold Lib.itoa
  rw [if_pos (by omega), Int.natAbs_neg, Int.natAbs_natCast]
theorem dd_small {m : Nat} (h : m < 10) : Lib.decDigits m = [UInt8.ofNat (48 + m)] := by rw [Lib.decDigits, dif_pos h]
theorem dd_big {m : Nat} (h : 10 ≤ m) : Lib.decDigits m = Lib.decDigits (m / 10) ++ [UInt8.ofNat (48 + m % 10)] := by
  conv => lhs; rw [Lib.decDigits, dif_neg (by omega)]
def dcL : List UInt8 := [48, 49, 50, 51, 52, 53, 54, 55, 56, 57]
theorem dc_at : ∀ d, d < 10 → (dcL.take (d + 1)).drop d = [UInt8.ofNat (48 + d)] := by
  intro d hd
  have h : ∀ k : Fin 10, (dcL.take (k.1 + 1)).drop k.1 = [UInt8.ofNat (48 + k.1)] := by decide
  exact h ⟨d, hd⟩
theorem tdiv_neg (m : Nat) : (-(m : Int)).tdiv 10 = -((m / 10 : Nat) : Int) := by
  rw [Int.neg_tdiv]; rfl
theorem tmod_neg (m : Nat) : (-(m : Int)).tmod 10 = -((m % 10 : Nat) : Int) := by
  rw [Int.neg_tmod]; rfl
theorem num_neg {m : Nat} (h : 10 ≤ m) : Lib.itoa (-((m / 10 : Nat) : Int)) ++ Lib.itoa ((m % 10 : Nat) : Int) = Lib.itoa (-(m : Int)) := by
  rw [itoa_neg (by omega), itoa_pos, itoa_neg (by omega), dd_big h, dd_small (m := m % 10) (by omega)]
  rfl
theorem num_neg1 {m : Nat} (h : 0 < m) : [45] ++ Lib.itoa (m : Int) = Lib.itoa (-(m : Int)) := by rw [itoa_pos, itoa_neg h]; rfl
theorem num_big {m : Nat} (h : 10 ≤ m) : Lib.itoa ((m / 10 : Nat) : Int) ++ (dcL.take (m % 10 + 1)).drop (m % 10) = Lib.itoa (m : Int) := by
  rw [itoa_pos, itoa_pos, dd_big h, dc_at _ (by omega)]
theorem num_small {m : Nat} (h : m < 10) : (dcL.take (m + 1)).drop m = Lib.itoa (m : Int) := by rw [itoa_pos, dd_small h, dc_at _ h]
theorem dd_len : ∀ (k m : Nat), m < 10 ^ (k + 1) → (Lib.decDigits m).length ≤ k + 1
  | 0, m, h => by rw [dd_small (by omega)]; exact Nat.le_refl _
  | k + 1, m, h => by
    by_cases g : m < 10
    · rw [dd_small g]; simp
    · rw [dd_big (by omega), List.length_append]
      have := dd_len k (m / 10) (by rw [Nat.pow_succ] at h; omega)
      simp only [List.length_cons, List.length_nil]
      omega
theorem itoa_len {n : Int} (h : -999999999 ≤ n ∧ n ≤ 999999999) : (Lib.itoa n).length ≤ 10 := by
  rcases Int.lt_or_le n 0 with g | g
  · obtain ⟨m, hm⟩ := Int.eq_ofNat_of_zero_le (show 0 ≤ -n by omega)
    obtain rfl : n = -(m : Int) := by omega
    rw [itoa_neg (by omega), List.length_cons]
    have := dd_len 8 m (by omega)
    omega
  · obtain ⟨m, rfl⟩ := Int.eq_ofNat_of_zero_le g
    rw [itoa_pos]
    have := dd_len 8 m (by omega)
    omega
theorem itoa_lenW {n : Int} (h : -9223372036854775808 ≤ n ∧ n ≤ 9223372036854775807) : (Lib.itoa n).length ≤ 20 := by
  rcases Int.lt_or_le n 0 with g | g
  · obtain ⟨m, hm⟩ := Int.eq_ofNat_of_zero_le (show 0 ≤ -n by omega)
    obtain rfl : n = -(m : Int) := by omega
    rw [itoa_neg (by omega), List.length_cons]
    have := dd_len 18 m (by omega)
    omega
  · obtain ⟨m, rfl⟩ := Int.eq_ofNat_of_zero_le g
    rw [itoa_pos]
    have := dd_len 18 m (by omega)
    omega
/-- A number behind a blank. -/
def nT (n : Int) : List UInt8 := 32 :: Lib.itoa n
/-- A command's line. -/
def textF (c : Cm) : List UInt8 :=
  if c.kind = 114 then wRead ++ nT c.a ++ nT c.b else if c.kind = 119 then wWrite ++ nT c.a ++ nT c.b ++ (32 :: Qt c.data) else if c.kind = 116 then wTrim ++ nT c.a ++ nT c.b
  else if c.kind = 99 then wCut ++ nT c.a else if c.kind = 102 then wFail ++ nT c.a
  else if c.kind = 109 then (if c.a = -1 then wMount else wMount ++ nT c.a) else if c.kind = 115 then wShow else wStat
/-- Small numbers, few data; what a kind does not have is nothing. -/
structure CmOk (c : Cm) : Prop where
  a : -999999999 ≤ c.a ∧ c.a ≤ 999999999
  b : -999999999 ≤ c.b ∧ c.b ≤ 999999999
  data : c.data.length ≤ 100000000
  kind : c.kind = 119 ∨ (c.data = [] ∧ (c.kind = 114 ∨ c.kind = 116 ∨ (c.b = 0 ∧ (c.kind = 99 ∨ c.kind = 102 ∨ c.kind = 109 ∨ (c.a = 0 ∧ (c.kind = 115 ∨ c.kind = 105))))))
/-- The same with any numbers. -/
structure CmW (c : Cm) : Prop where
  a : -9223372036854775808 ≤ c.a ∧ c.a ≤ 9223372036854775807
  b : -9223372036854775808 ≤ c.b ∧ c.b ≤ 9223372036854775807
  data : c.data.length ≤ 100000000
  kind : c.kind = 119 ∨ (c.data = [] ∧ (c.kind = 114 ∨ c.kind = 116 ∨ (c.b = 0 ∧ (c.kind = 99 ∨ c.kind = 102 ∨ c.kind = 109 ∨ (c.a = 0 ∧ (c.kind = 115 ∨ c.kind = 105))))))
theorem CmOk.wide {c : Cm} (h : CmOk c) : CmW c := ⟨by have := h.a; omega, by have := h.b; omega, h.data, h.kind⟩
end Go.Mo
set_option maxRecDepth 100000
namespace Go.Mo
open Go Go.Sl
theorem decFrom_app : ∀ (l r : List UInt8) (acc : Nat), Lib.decFrom acc (l ++ r) = (Lib.decFrom acc l).bind fun n => Lib.decFrom n r
  | [], r, acc => rfl
  | c :: l, r, acc => by
    simp only [List.cons_append, Lib.decFrom]
    cases Lib.digitVal c with
    | none => rfl
    | some d => exact decFrom_app l r _
theorem digit_ofNat {d : Nat} (h : d < 10) : Lib.digitVal (UInt8.ofNat (48 + d)) = some d := by
  have g : ∀ k : Fin 10, Lib.digitVal (UInt8.ofNat (48 + k.1)) = some k.1 := by decide
  exact g ⟨d, h⟩
theorem dec_dd (m : Nat) : Lib.decFrom 0 (Lib.decDigits m) = some m := by
  induction m using Nat.strongRecOn with
  | _ m ih =>
    by_cases h : m < 10
    · rw [dd_small h]
      unfold Lib.decFrom
      rw [digit_ofNat h]
      show some (0 * 10 + m) = some m
      congr 1
      omega
    · rw [dd_big (by omega), decFrom_app, ih (m / 10) (by omega)]
      show Lib.decFrom (m / 10) [UInt8.ofNat (48 + m % 10)] = some m
      unfold Lib.decFrom
      rw [digit_ofNat (Nat.mod_lt _ (by omega))]
      show some (m / 10 * 10 + m % 10) = some m
      congr 1
      omega
theorem dd_dig (m : Nat) : Lib.decDigits m ≠ [] ∧ ∀ c ∈ Lib.decDigits m, 48 ≤ c.toNat ∧ c.toNat ≤ 57 := by
  have one : ∀ d, d < 10 → 48 ≤ (UInt8.ofNat (48 + d)).toNat ∧ (UInt8.ofNat (48 + d)).toNat ≤ 57 := fun d hd => by
    rw [UInt8.toNat_ofNat_of_lt' (by show 48 + d < 256; omega)]
    omega
  induction m using Nat.strongRecOn with
  | _ m ih =>
    by_cases h : m < 10
    · rw [dd_small h]
      refine ⟨by simp, fun c hc => ?_⟩
      rw [List.mem_singleton.1 hc]
      exact one m h
    · rw [dd_big (by omega)]
      refine ⟨by simp, fun c hc => ?_⟩
      rcases List.mem_append.1 hc with hc | hc
      · exact (ih (m / 10) (by omega)).2 c hc
      · rw [List.mem_singleton.1 hc]
        exact one _ (Nat.mod_lt _ (by omega))
theorem itoa_ch (n : Int) : Lib.itoa n ≠ [] ∧ ∀ c ∈ Lib.itoa n, 45 ≤ c.toNat ∧ c.toNat ≤ 57 := by
  rcases Int.lt_or_le n 0 with g | g
  · obtain ⟨m, hm⟩ := Int.eq_ofNat_of_zero_le (show 0 ≤ -n by omega)
    obtain rfl : n = -(m : Int) := by omega
    rw [itoa_neg (by omega)]
    refine ⟨by simp, fun c hc => ?_⟩
    rcases List.mem_cons.1 hc with rfl | hc
    · decide
    · have := (dd_dig m).2 c hc
      omega
  · obtain ⟨m, rfl⟩ := Int.eq_ofNat_of_zero_le g
    rw [itoa_pos]
    refine ⟨(dd_dig m).1, fun c hc => ?_⟩
    have := (dd_dig m).2 c hc
    omega
theorem numP_itoa {n : Int} (h : -999999999 ≤ n ∧ n ≤ 999999999) : numP (Lib.itoa n) = some n := by
  rcases Int.lt_or_le n 0 with g | g
  · obtain ⟨m, hm⟩ := Int.eq_ofNat_of_zero_le (show 0 ≤ -n by omega)
    obtain rfl : n = -(m : Int) := by omega
    have hl := dd_len 8 m (by omega)
    rw [itoa_neg (by omega)]
    unfold numP
    have ht : trimM (45 :: Lib.decDigits m) = Lib.decDigits m := rfl
    rw [ht, if_neg (fun g => g.elim (dd_dig m).1 (fun g => by omega)), dec_dd]
    rfl
  · obtain ⟨m, rfl⟩ := Int.eq_ofNat_of_zero_le g
    have hl := dd_len 8 m (by omega)
    rw [itoa_pos]
    have hh : ¬ (Lib.decDigits m).head? = some 45 := fun e => by
      have := (dd_dig m).2 45 (List.mem_of_mem_head? e)
      revert this
      decide
    unfold numP
    have ht : trimM (Lib.decDigits m) = Lib.decDigits m := if_neg hh
    rw [ht, if_neg (fun g => g.elim (dd_dig m).1 (fun g => by omega)), dec_dd, Option.map_some, if_neg hh]
/-- Behind a word: nothing, or what ends it. -/
def Stp (r : List UInt8) : Prop := r = [] ∨ ∃ c t, r = c :: t ∧ stopB c = true
theorem fstN_all {p : UInt8 → Bool} : ∀ (l r : List UInt8), (∀ c ∈ l, p c = false) → fstN p (l ++ r) = l.length + fstN p r
  | [], r, _ => by simp
  | c :: l, r, h => by
    have h1 := h c (List.mem_cons_self ..)
    have ih := fstN_all l r fun d hd => h d (List.mem_cons_of_mem _ hd)
    show (if p c = true then 0 else fstN p (l ++ r) + 1) = _
    rw [h1, ih, if_neg (by simp), List.length_cons]
    omega
theorem word_app {w r : List UInt8} (hw : w ≠ []) (h : ∀ c ∈ w, stopB c = false) (hr : Stp r) : wordF (w ++ r) = (w, r) := by
  have h0 : fstN stopB r = 0 := by
    rcases hr with rfl | ⟨c, t, rfl, hc⟩
    · rfl
    · show (if stopB c = true then 0 else fstN stopB t + 1) = 0
      rw [if_pos hc]
  have hd : dropB (w ++ r) = w ++ r := by
    cases w with
    | nil => exact absurd rfl hw
    | cons c w =>
      have h1 := h c (List.mem_cons_self ..)
      have hb : blankB c = false := by
        unfold stopB at h1
        unfold blankB
        simp only [Bool.or_eq_false_iff] at h1 ⊢
        exact ⟨h1.1.1, h1.1.2⟩
      show List.drop (if (!blankB c) = true then 0 else fstN (fun c => !blankB c) (w ++ r) + 1) (c :: (w ++ r)) = _
      rw [hb]
      rfl
  unfold wordF
  rw [hd, fstN_all w r h, h0, Nat.add_zero, List.take_left, List.drop_left]
theorem word_sp (l : List UInt8) : wordF (32 :: l) = wordF l := rfl
theorem stopB_ge {c : UInt8} (h : 33 ≤ c.toNat) : stopB c = false := by
  have h1 : ∀ n : Nat, n < 33 → (c == UInt8.ofNat n) = false := fun n hn => by
    rw [beq_eq_false_iff_ne]
    rintro rfl
    rw [UInt8.toNat_ofNat_of_lt' (by show n < 256; omega)] at h
    omega
  unfold stopB
  have a := h1 32 (by omega)
  have b := h1 9 (by omega)
  have d := h1 10 (by omega)
  simp only [Bool.or_eq_false_iff]
  exact ⟨⟨a, b⟩, d⟩
theorem stp_sp (l : List UInt8) : Stp (32 :: l) := .inr ⟨32, l, rfl, rfl⟩
theorem stp_nT (n : Int) (l : List UInt8) : Stp (nT n ++ l) := stp_sp _
theorem word_nT (n : Int) {r : List UInt8} (hr : Stp r) : wordF (nT n ++ r) = (Lib.itoa n, r) := by
  show wordF (32 :: (Lib.itoa n ++ r)) = _
  rw [word_sp]
  exact word_app (itoa_ch n).1 (fun c hc => stopB_ge (by have := (itoa_ch n).2 c hc; omega)) hr
theorem nums_one {a : Int} (ha : -999999999 ≤ a ∧ a ≤ 999999999) {r : List UInt8} (hr : Stp r) : numsF 1 (nT a ++ r) = some ([a], r) := by
  unfold numsF
  rw [word_nT a hr]
  dsimp only
  rw [numP_itoa ha]
  rfl
theorem nums_two {a b : Int} (ha : -999999999 ≤ a ∧ a ≤ 999999999) (hb : -999999999 ≤ b ∧ b ≤ 999999999) {r : List UInt8} (hr : Stp r) : numsF 2 (nT a ++ (nT b ++ r)) = some ([a, b], r) := by
  unfold numsF
  rw [word_nT a (stp_nT b r)]
  dsimp only
  rw [numP_itoa ha, nums_one hb hr]
  rfl
theorem wd_word {w r : List UInt8} (hw : w ∈ [wWrite, wRead, wTrim, wCut, wFail, wMount, wShow, wStat]) (hr : Stp r) : wordF (w ++ r) = (w, r) := by
  have h : ∀ w ∈ [wWrite, wRead, wTrim, wCut, wFail, wMount, wShow, wStat], w ≠ [] ∧ ∀ c ∈ w, stopB c = false := by decide
  exact word_app (h w hw).1 (h w hw).2 hr
theorem rest_two {k : Nat} {a b : Int} (ha : -999999999 ≤ a ∧ a ≤ 999999999) (hb : -999999999 ≤ b ∧ b ≤ 999999999) : restF k 2 (nT a ++ nT b) = some ⟨k, a, b, []⟩ := by
  have h := nums_two ha hb (r := []) (.inl rfl)
  rw [List.append_nil] at h
  unfold restF
  rw [h]
  rfl
theorem rest_one {k : Nat} {a : Int} (ha : -999999999 ≤ a ∧ a ≤ 999999999) : restF k 1 (nT a) = some ⟨k, a, 0, []⟩ := by
  have h := nums_one ha (r := []) (.inl rfl)
  rw [List.append_nil] at h
  unfold restF
  rw [h]
  rfl
theorem drop_qt (s : List UInt8) : dropB (32 :: Qt s) = Qt s := rfl
theorem rd_qt (s : List UInt8) : rdF (Qt s) = some (s, (Qt s).length) := rd_some (.inl ⟨rfl, [], (List.append_nil _).symm, rfl⟩)
theorem write_two {a b : Int} {s : List UInt8} (ha : -999999999 ≤ a ∧ a ≤ 999999999) (hb : -999999999 ≤ b ∧ b ≤ 999999999) : writeF (nT a ++ (nT b ++ (32 :: Qt s))) = some ⟨119, a, b, s⟩ := by
  unfold writeF
  rw [nums_two ha hb (stp_sp _)]
  dsimp only
  rw [drop_qt, rd_qt]
  dsimp only
  rw [List.drop_length]
  rfl
theorem line_text {c : Cm} (h : CmOk c) : lineF (textF c) = some c ∧ ¬ SkipQ (textF c) := by
  obtain ⟨k, a, b, s⟩ := c
  have ha := h.a
  have hb := h.b
  have hk := h.kind
  dsimp only at ha hb
  have main : ∀ (w r : List UInt8), w ∈ [wWrite, wRead, wTrim, wCut, wFail, wMount, wShow, wStat] → Stp r → textF ⟨k, a, b, s⟩ = w ++ r → wordF (textF ⟨k, a, b, s⟩) = (w, r) ∧ ¬ SkipQ (textF ⟨k, a, b, s⟩) := fun w r hw hr e => by
    have h1 : wordF (textF ⟨k, a, b, s⟩) = (w, r) := by rw [e]; exact wd_word hw hr
    refine ⟨h1, ?_⟩
    unfold SkipQ
    rw [h1]
    have hh : ∀ w ∈ [wWrite, wRead, wTrim, wCut, wFail, wMount, wShow, wStat], ¬ (w = [] ∨ at0 w 0 = 35) := by decide
    exact hh w hw
  rcases hk with rfl | ⟨rfl, rfl | rfl | ⟨rfl, rfl | rfl | rfl | ⟨rfl, rfl | rfl⟩⟩⟩
  · have e : textF ⟨119, a, b, s⟩ = wWrite ++ (nT a ++ (nT b ++ (32 :: Qt s))) := by show wWrite ++ nT a ++ nT b ++ (32 :: Qt s) = _; simp only [List.append_assoc]
    obtain ⟨h1, h2⟩ := main wWrite _ (by decide) (stp_nT _ _) e
    refine ⟨?_, h2⟩
    unfold lineF
    rw [h1]
    exact write_two ha hb
  · have e : textF ⟨114, a, b, []⟩ = wRead ++ (nT a ++ nT b) := by show wRead ++ nT a ++ nT b = _; simp only [List.append_assoc]
    obtain ⟨h1, h2⟩ := main wRead _ (by decide) (stp_nT _ _) e
    refine ⟨?_, h2⟩
    unfold lineF
    rw [h1]
    exact rest_two ha hb
  · have e : textF ⟨116, a, b, []⟩ = wTrim ++ (nT a ++ nT b) := by show wTrim ++ nT a ++ nT b = _; simp only [List.append_assoc]
    obtain ⟨h1, h2⟩ := main wTrim _ (by decide) (stp_nT _ _) e
    refine ⟨?_, h2⟩
    unfold lineF
    rw [h1]
    exact rest_two ha hb
  · obtain ⟨h1, h2⟩ := main wCut (nT a) (by decide) (stp_sp _) rfl
    refine ⟨?_, h2⟩
    unfold lineF
    rw [h1]
    exact rest_one ha
  · obtain ⟨h1, h2⟩ := main wFail (nT a) (by decide) (stp_sp _) rfl
    refine ⟨?_, h2⟩
    unfold lineF
    rw [h1]
    exact rest_one ha
  · by_cases hm : a = -1
    · subst hm
      obtain ⟨h1, h2⟩ := main wMount [] (by decide) (.inl rfl) rfl
      refine ⟨?_, h2⟩
      unfold lineF
      rw [h1]
      rfl
    · have e : textF ⟨109, a, 0, []⟩ = wMount ++ nT a := if_neg hm
      obtain ⟨h1, h2⟩ := main wMount (nT a) (by decide) (stp_sp _) e
      refine ⟨?_, h2⟩
      unfold lineF
      rw [h1]
      have h3 := word_nT a (r := []) (.inl rfl)
      rw [List.append_nil] at h3
      show (if (wordF (nT a)).1 = [] then some ⟨109, -1, 0, []⟩ else restF 109 1 (nT a)) = _
      rw [h3, if_neg (itoa_ch a).1]
      exact rest_one ha
  · obtain ⟨h1, h2⟩ := main wShow [] (by decide) (.inl rfl) rfl
    refine ⟨?_, h2⟩
    unfold lineF
    rw [h1]
    rfl
  · obtain ⟨h1, h2⟩ := main wStat [] (by decide) (.inl rfl) rfl
    refine ⟨?_, h2⟩
    unfold lineF
    rw [h1]
    rfl
instance (l : List UInt8) : Decidable (NoNl l) := by unfold NoNl; exact inferInstance
theorem enc_hi {r : Nat} (h : 128 ≤ r) : ∀ c ∈ enc r, 128 ≤ c.toNat := by
  have big : ∀ n : Nat, 128 ≤ n % 256 → 128 ≤ (UInt8.ofNat n).toNat := fun n hn => hn
  unfold enc Utf8.encode
  dsimp only
  have hc : 128 ≤ (if Utf8.valid (r : Int) = true then (r : Int).toNat else Utf8.runeError) := by
    split
    · rw [Int.toNat_natCast]; exact h
    · decide
  have hm : (if Utf8.valid (r : Int) = true then (r : Int).toNat else Utf8.runeError) < 1114112 := by
    split
    · rename_i hv
      simp [Utf8.valid] at hv
      omega
    · decide
  generalize (if Utf8.valid (r : Int) = true then (r : Int).toNat else Utf8.runeError) = c at hc hm
  rw [if_neg (by omega)]
  by_cases h2 : c < 2048
  · rw [if_pos h2]
    intro x hx
    simp only [List.mem_cons, List.not_mem_nil, or_false] at hx
    rcases hx with rfl | rfl <;> exact big _ (by omega)
  · rw [if_neg h2]
    by_cases h3 : c < 65536
    · rw [if_pos h3]
      intro x hx
      simp only [List.mem_cons, List.not_mem_nil, or_false] at hx
      rcases hx with rfl | rfl | rfl <;> exact big _ (by omega)
    · rw [if_neg h3]
      intro x hx
      simp only [List.mem_cons, List.not_mem_nil, or_false] at hx
      rcases hx with rfl | rfl | rfl | rfl <;> exact big _ (by omega)
theorem hexN_nl : ∀ (n v : Nat), NoNl (hexN v n)
  | 0, v => fun c hc => by cases hc
  | n + 1, v => fun c hc => by
    rcases List.mem_append.1 (show c ∈ hexN (v / 16) n ++ hexD (v % 16) from hc) with h | h
    · exact hexN_nl n _ c h
    · have h1 : c ∈ hexL := List.mem_of_mem_take (List.mem_of_mem_drop h)
      have h2 : ∀ c ∈ hexL, c ≠ 10 := by decide
      exact h2 c h1
theorem NoNl.app {a b : List UInt8} (ha : NoNl a) (hb : NoNl b) : NoNl (a ++ b) := fun c hc => (List.mem_append.1 hc).elim (ha c) (hb c)
theorem enc_nl {r : Nat} (h : r ≠ 10) : NoNl (enc r) := by
  intro c hc
  by_cases g : r < 128
  · rw [enc_low g] at hc
    rw [List.mem_singleton.1 hc]
    intro e
    have := congrArg UInt8.toNat e
    rw [UInt8.toNat_ofNat_of_lt' (by show r < 256; omega)] at this
    exact h this
  · have := enc_hi (r := r) (by omega) c hc
    rintro rfl
    revert this
    decide
theorem toldR_nl (r : Nat) : NoNl (toldR r) := by
  have two : ∀ x, x ≠ (10 : UInt8) → NoNl [92, x] := fun x hx c hc => by
    simp only [List.mem_cons, List.not_mem_nil, or_false] at hc
    rcases hc with rfl | rfl
    · decide
    · exact hx
  unfold toldR
  by_cases h1 : r = 34 ∨ r = 92
  · rw [if_pos h1]
    exact NoNl.app (a := [92]) (by decide) (enc_nl (by omega))
  · rw [if_neg h1]
    by_cases h2 : r = 10
    · rw [if_pos h2]; exact two _ (by decide)
    · rw [if_neg h2]
      by_cases h3 : r = 9
      · rw [if_pos h3]; exact two _ (by decide)
      · rw [if_neg h3]
        by_cases h4 : r = 0
        · rw [if_pos h4]; exact two _ (by decide)
        · rw [if_neg h4]
          split
          · exact NoNl.app (two _ (by decide)) (hexN_nl _ _)
          · split
            · exact NoNl.app (two _ (by decide)) (hexN_nl _ _)
            · exact enc_nl h2
theorem qI_nl : ∀ (n : Nat) (s : List UInt8), s.length ≤ n → NoNl (qI s)
  | 0, s, h => by
    obtain rfl : s = [] := List.eq_nil_of_length_eq_zero (by omega)
    exact fun c hc => by cases hc
  | n + 1, s, h => by
    by_cases hs : s = []
    · subst hs; exact fun c hc => by cases hc
    · have hw := wdB_pos hs
      rw [qI_step hs]
      refine NoNl.app ?_ (qI_nl n _ (by rw [List.length_drop]; omega))
      unfold pcB
      split
      · exact NoNl.app (a := [92, 120]) (by decide) (hexN_nl _ _)
      · exact toldR_nl _
theorem Qt_nl (s : List UInt8) : NoNl (Qt s) := NoNl.app (a := 34 :: qI s) (NoNl.app (a := [34]) (by decide) (qI_nl _ s (Nat.le_refl _))) (by decide)
theorem nT_nl (n : Int) : NoNl (nT n) := NoNl.app (a := [32]) (by decide) (fun c hc => by
  have := (itoa_ch n).2 c hc
  rintro rfl
  revert this
  decide)
theorem text_nl (c : Cm) : NoNl (textF c) := by
  have hw : ∀ w ∈ [wWrite, wRead, wTrim, wCut, wFail, wMount, wShow, wStat], NoNl w := by decide
  unfold textF
  repeat' split
  · exact ((hw wRead (by decide)).app (nT_nl _)).app (nT_nl _)
  · exact (((hw wWrite (by decide)).app (nT_nl _)).app (nT_nl _)).app (NoNl.app (a := [32]) (by decide) (Qt_nl _))
  · exact ((hw wTrim (by decide)).app (nT_nl _)).app (nT_nl _)
  · exact (hw wCut (by decide)).app (nT_nl _)
  · exact (hw wFail (by decide)).app (nT_nl _)
  · exact hw wMount (by decide)
  · exact (hw wMount (by decide)).app (nT_nl _)
  · exact hw wShow (by decide)
  · exact hw wStat (by decide)
theorem cut_one : ∀ {a : List UInt8}, NoNl a → cutsF a = [a]
  | [], _ => rfl
  | c :: a, h => by
    have ih := cut_one (a := a) (fun d hd => h d (List.mem_cons_of_mem _ hd))
    unfold cutsF
    rw [if_neg (h c (List.mem_cons_self ..)), ih]
theorem cut_nl : ∀ {a r : List UInt8}, NoNl a → cutsF (a ++ 10 :: r) = a :: cutsF r
  | [], r, _ => by
    show cutsF (10 :: r) = _
    conv => lhs; unfold cutsF
    rw [if_pos rfl]
  | c :: a, r, h => by
    have ih := cut_nl (a := a) (r := r) (fun d hd => h d (List.mem_cons_of_mem _ hd))
    show cutsF (c :: (a ++ 10 :: r)) = _
    conv => lhs; unfold cutsF
    rw [if_neg (h c (List.mem_cons_self ..)), ih]
/-- Commands told, a line each. -/
def prF (cs : List Cm) : List UInt8 := (cs.map fun c => textF c ++ [10]).flatten
theorem prF_app (l m : List Cm) : prF (l ++ m) = prF l ++ prF m := by unfold prF; rw [List.map_append, List.flatten_append]
theorem prF_one (l : List Cm) (c : Cm) : prF (l ++ [c]) = prF l ++ (textF c ++ [10]) := by
  rw [prF_app]
  unfold prF
  simp
theorem cuts_pr : ∀ (cs : List Cm) (r : List UInt8), cutsF (prF cs ++ r) = cs.map textF ++ cutsF r
  | [], r => rfl
  | c :: cs, r => by
    have e : prF (c :: cs) ++ r = textF c ++ 10 :: (prF cs ++ r) := by
      unfold prF
      simp
    rw [e, cut_nl (text_nl c), cuts_pr cs r]
    rfl
theorem lines_of {t : List UInt8} {L : List (List UInt8)} {x : List UInt8} (h : cutsF t = L ++ [x]) : linesF t = if x = [] then L else L ++ [x] := by
  unfold linesF
  have e : (cutsF t).getLast (cutsF_ne t) = x := by simp [h]
  rw [e]
  split
  · rw [h]; simp
  · exact h
theorem pars_texts : ∀ (cs : List Cm) (i : Nat) (ls : List (List UInt8)), (∀ c ∈ cs, CmOk c) → parsG i (cs.map textF ++ ls) = mapR cs (parsG (i + cs.length) ls)
  | [], i, ls, _ => by
    rw [mapR_nil]
    rfl
  | c :: cs, i, ls, h => by
    obtain ⟨h1, h2⟩ := line_text (h c (List.mem_cons_self ..))
    have ih := pars_texts cs (i + 1) ls fun d hd => h d (List.mem_cons_of_mem _ hd)
    show parsG i (textF c :: (cs.map textF ++ ls)) = _
    conv => lhs; unfold parsG
    rw [if_neg h2, h1]
    dsimp only
    rw [ih, List.length_cons, show i + 1 + cs.length = i + (cs.length + 1) from by omega]
    cases parsG (i + (cs.length + 1)) ls <;> rfl
theorem parse_pr {cs : List Cm} (h : ∀ c ∈ cs, CmOk c) (hl : (prF cs).length ≤ 16384) (hn : cs.length ≤ 1000) : ParseQ (prF cs) cs 0 0 := by
  have h1 := cuts_pr cs []
  rw [List.append_nil] at h1
  have h2 := lines_of (x := []) h1
  rw [if_pos rfl] at h2
  have h3 := pars_texts cs 0 [] h
  rw [List.append_nil] at h3
  refine .inr ⟨?_, .inr ⟨?_, rfl, rfl⟩⟩
  · rw [h2, List.length_map]
    omega
  · rw [h2, h3]
    show Sum.inr (cs ++ []) = _
    rw [List.append_nil]
theorem skip_remark (g : List UInt8) : SkipQ (35 :: 32 :: g) := by
  have h : wordF ([35] ++ 32 :: g) = ([35], 32 :: g) := word_app (by simp) (by decide) (stp_sp g)
  right
  show at0 (wordF ([35] ++ 32 :: g)).1 0 = 35
  rw [h]
  rfl
theorem skip_blank : SkipQ [9, 32] := .inl rfl
theorem parse_gap {cs : List Cm} {g : List UInt8} (h : ∀ c ∈ cs, CmOk c) (hg : NoNl g) (hgl : g.length ≤ 100) (hl : (prF cs).length ≤ 7000) (hn : cs.length ≤ 900) : ParseQ ((((([35, 32] ++ g) ++ [10, 9, 32, 10]) ++ prF cs) ++ [32, 32, 35, 32]) ++ g) cs 0 0 := by
  have e : ((((([35, 32] ++ g) ++ [10, 9, 32, 10]) ++ prF cs) ++ [32, 32, 35, 32]) ++ g) = (35 :: 32 :: g) ++ 10 :: ([9, 32] ++ 10 :: (prF cs ++ (32 :: 32 :: 35 :: 32 :: g))) := by simp
  have c1 : NoNl (35 :: 32 :: g) := NoNl.app (a := [35, 32]) (by decide) hg
  have c2 : NoNl (32 :: 32 :: 35 :: 32 :: g) := NoNl.app (a := [32, 32, 35, 32]) (by decide) hg
  have hc : cutsF ((((([35, 32] ++ g) ++ [10, 9, 32, 10]) ++ prF cs) ++ [32, 32, 35, 32]) ++ g) = ((35 :: 32 :: g) :: [9, 32] :: cs.map textF) ++ [32 :: 32 :: 35 :: 32 :: g] := by
    rw [e, cut_nl c1, cut_nl (by decide), cuts_pr, cut_one c2]
    rfl
  have h2 := lines_of hc
  rw [if_neg (by simp)] at h2
  refine .inr ⟨?_, .inr ⟨?_, rfl, rfl⟩⟩
  · rw [h2]
    simp only [List.length_append, List.length_cons, List.length_nil, List.length_map]
    omega
  · rw [h2]
    show parsG 0 ((35 :: 32 :: g) :: [9, 32] :: (cs.map textF ++ [32 :: 32 :: 35 :: 32 :: g])) = _
    have skip : ∀ (i : Nat) (l : List UInt8) (ls : List (List UInt8)), SkipQ l → parsG i (l :: ls) = parsG (i + 1) ls := fun i l ls hs => by
      conv => lhs; unfold parsG
      rw [if_pos hs]
    rw [skip _ _ _ (skip_remark g), skip _ _ _ skip_blank, pars_texts cs _ _ h, skip _ _ _ (show SkipQ (32 :: 32 :: 35 :: 32 :: g) from skip_remark g)]
    show Sum.inr (cs ++ []) = _
    rw [List.append_nil]
/-- A command by numbers. -/
structure Sy where
  k : Int
  a : Int
  b : Int
  d : List UInt8
def Sy.cm (x : Sy) : Cm :=
  if x.k = 0 then ⟨114, x.a, x.b, []⟩ else if x.k = 1 then ⟨119, x.a, x.b, x.d⟩ else if x.k = 2 then ⟨116, x.a, x.b, []⟩ else if x.k = 3 then ⟨99, x.a, 0, []⟩
  else if x.k = 4 then ⟨102, x.a, 0, []⟩ else if x.k = 5 then ⟨109, x.a, 0, []⟩ else if x.k = 6 then ⟨115, 0, 0, []⟩ else ⟨105, 0, 0, []⟩
structure SyW (x : Sy) : Prop where
  a : -9223372036854775808 ≤ x.a ∧ x.a ≤ 9223372036854775807
  b : -9223372036854775808 ≤ x.b ∧ x.b ≤ 9223372036854775807
  d : x.d.length ≤ 2000000
structure SyOk (x : Sy) : Prop where
  a : -999999999 ≤ x.a ∧ x.a ≤ 999999999
  b : -999999999 ≤ x.b ∧ x.b ≤ 999999999
  d : x.d.length ≤ 20000
theorem Sy.cm_d (x : Sy) : x.cm.data.length ≤ x.d.length := by
  unfold Sy.cm
  repeat' split
  all_goals first | exact Nat.zero_le _ | exact Nat.le_refl _
theorem Sy.cmW {x : Sy} (h : SyW x) : CmW x.cm := by
  have hd := h.d
  have ha := h.a
  have hb := h.b
  have hd2 := x.cm_d
  refine ⟨?_, ?_, by omega, ?_⟩
  · unfold Sy.cm
    repeat' split
    all_goals first | exact ha | exact ⟨by dsimp only; omega, by dsimp only; omega⟩
  · unfold Sy.cm
    repeat' split
    all_goals first | exact hb | exact ⟨by dsimp only; omega, by dsimp only; omega⟩
  · unfold Sy.cm
    repeat' split
    all_goals simp
theorem Sy.cmOk {x : Sy} (h : SyOk x) : CmOk x.cm := by
  have hd := h.d
  have ha := h.a
  have hb := h.b
  have hd2 := x.cm_d
  refine ⟨?_, ?_, by omega, ?_⟩
  · unfold Sy.cm
    repeat' split
    all_goals first | exact ha | exact ⟨by dsimp only; omega, by dsimp only; omega⟩
  · unfold Sy.cm
    repeat' split
    all_goals first | exact hb | exact ⟨by dsimp only; omega, by dsimp only; omega⟩
  · unfold Sy.cm
    repeat' split
    all_goals simp
theorem text_len {c : Cm} (h : CmW c) : (textF c).length ≤ 6 * c.data.length + 60 := by
  have h1 := itoa_lenW h.a
  have h2 := itoa_lenW h.b
  have h3 := qI_len _ c.data (Nat.le_refl _)
  unfold textF
  repeat' split
  all_goals (simp only [nT, Qt, wRead, wWrite, wTrim, wCut, wFail, wMount, wShow, wStat, List.length_append, List.length_cons, List.length_nil]; omega)
end Go.Mo
