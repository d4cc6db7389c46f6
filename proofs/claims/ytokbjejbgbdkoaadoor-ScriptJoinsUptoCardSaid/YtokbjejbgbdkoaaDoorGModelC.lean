/-
  Commands out of a line, in plain words: no program in sight.
-/
import Derived.Test.YtokbjejbgbdkoaaDoorGModelU
import Derived.Lib.Atoi
import Derived.Lib.Strings
import Derived.Lib.SlTrimSet
import Derived.Lib.SplitLaws
import Derived.Lib.ItoaNum
set_option linter.unusedVariables false
set_option linter.unusedSimpArgs false
set_option maxRecDepth 100000
namespace Go.Mo
open Go Go.Sl
/-- The first place that p asks for, or the end. -/
def fstN (p : UInt8 → Bool) : List UInt8 → Nat
  | [] => 0
  | c :: r => if p c = true then 0 else fstN p r + 1
theorem first_fstN {q : UInt8 → Prop} {p : UInt8 → Bool} (hq : ∀ c, p c = true ↔ q c) : ∀ l, First q l (fstN p l)
  | [] => ⟨Nat.le_refl _, fun k hk _ => absurd hk (Nat.not_lt_zero _), fun hn => absurd hn (Nat.not_lt_zero _)⟩
  | c :: r => by
    unfold fstN
    split
    · rename_i h
      exact ⟨Nat.zero_le _, fun k _ hk => absurd hk (Nat.not_lt_zero _), fun _ => (hq c).1 h⟩
    · rename_i h
      have ih := first_fstN hq r
      refine ⟨Nat.succ_le_succ ih.le, fun k hk hkn => ?_, fun hn => ?_⟩
      · cases k with
        | zero => exact fun g => h ((hq c).2 g)
        | succ k => exact ih.no k (Nat.lt_of_succ_lt_succ hk) (Nat.lt_of_succ_lt_succ hkn)
      · exact ih.yes (Nat.lt_of_succ_lt_succ hn)
def blankB (c : UInt8) : Bool := c == 32 || c == 9
def stopB (c : UInt8) : Bool := c == 32 || c == 9 || c == 10
theorem u8_is {c : UInt8} {n : Nat} (hn : n < 256) : (c == UInt8.ofNat n) = true ↔ c.toNat = n := by
  rw [beq_iff_eq]
  constructor
  · rintro rfl; exact UInt8.toNat_ofNat_of_lt' hn
  · intro h; rw [← h, UInt8.ofNat_toNat]
theorem blankB_iff (c : UInt8) : blankB c = true ↔ blankL c := by
  unfold blankB blankL
  rw [Bool.or_eq_true]
  exact or_congr (u8_is (n := 32) (by omega)) (u8_is (n := 9) (by omega))
theorem stopB_iff (c : UInt8) : stopB c = true ↔ stopL c := by
  unfold stopB stopL
  rw [Bool.or_eq_true, Bool.or_eq_true]
  exact or_congr (or_congr (u8_is (n := 32) (by omega)) (u8_is (n := 9) (by omega))) (u8_is (n := 10) (by omega))
/-- How many blanks stand ahead. -/
def lead (l : List UInt8) : Nat := fstN (fun c => !blankB c) l
def dropB (l : List UInt8) : List UInt8 := l.drop (lead l)
theorem first_lead (l : List UInt8) : First (fun c => ¬ blankL c) l (lead l) := first_fstN (fun c => by rw [← blankB_iff]; simp) l
theorem dropB_eq : ∀ l, Lib.trimLeftS l [32, 9] = dropB l
  | [] => rfl
  | c :: r => by
    show List.dropWhile (fun c => ([32, 9] : List UInt8).contains c) (c :: r) = List.drop (if (!blankB c) = true then 0 else lead r + 1) (c :: r)
    have e : ([32, 9] : List UInt8).contains c = blankB c := by
      unfold blankB
      simp [List.contains_cons]
      rfl
    rw [List.dropWhile_cons, e]
    cases h : blankB c with
    | true => simp only [if_true, Bool.not_true, Bool.false_eq_true, if_false, List.drop_succ_cons]; exact dropB_eq r
    | false => simp
/-- The first word, and the rest. -/
def wordF (l : List UInt8) : List UInt8 × List UInt8 := ((dropB l).take (fstN stopB (dropB l)), (dropB l).drop (fstN stopB (dropB l)))
theorem word_f {l a b : List UInt8} (h : WordQ l a b) : a = (wordF l).1 ∧ b = (wordF l).2 := by
  have h2 : WordQ l (wordF l).1 (wordF l).2 := ⟨lead l, fstN stopB (dropB l), first_lead l, first_fstN stopB_iff _, rfl, by show (l.drop _).drop _ = _; rw [List.drop_drop]⟩
  exact h.unique h2
theorem word_len (l : List UInt8) : (wordF l).1.length ≤ l.length ∧ (wordF l).2.length ≤ l.length := by
  unfold wordF dropB
  simp only [List.length_take, List.length_drop]
  omega
def NoNl (l : List UInt8) : Prop := ∀ c ∈ l, c ≠ 10
theorem NoNl.drop {l : List UInt8} (h : NoNl l) (n : Nat) : NoNl (l.drop n) := fun c hc => h c (List.mem_of_mem_drop hc)
theorem NoNl.rest {l : List UInt8} (h : NoNl l) : NoNl (wordF l).2 := (h.drop _).drop _
def trimM (w : List UInt8) : List UInt8 := if w.head? = some 45 then w.tail else w
theorem trimM_eq (w : List UInt8) : Lib.trimPrefix w [45] = trimM w := by
  unfold Lib.trimPrefix Lib.hasPrefix trimM
  cases w with
  | nil => rfl
  | cons c r =>
    by_cases h : c = 45
    · subst h; rfl
    · have : (([45] : List UInt8).isPrefixOf (c :: r)) = false := by
        simp [List.isPrefixOf]
        exact fun g => h g.symm
      rw [this]
      simp [h]
/-- A word's number. -/
def numP (w : List UInt8) : Option Int :=
  if trimM w = [] ∨ 9 < (trimM w).length then none else (Lib.decFrom 0 (trimM w)).map fun (m : Nat) => if w.head? = some 45 then -(m : Int) else (m : Int)
theorem numP_lt {w : List UInt8} {v : Int} (h : numP w = some v) : -999999999 ≤ v ∧ v ≤ 999999999 := by
  unfold numP at h
  split at h
  · cases h
  · rename_i hc
    rw [Option.map_eq_some_iff] at h
    obtain ⟨m, hm, rfl⟩ := h
    have := Lib.decFrom_lt _ _ _ hm
    have h9 : 10 ^ (trimM w).length ≤ 10 ^ 9 := Nat.pow_le_pow_right (by omega) (by omega)
    split <;> omega
theorem numP_atoi {w : List UInt8} {v : Int} (h : numP w = some v) : Lib.atoi w = some v ∧ w.length ≤ 10 := by
  unfold numP at h
  split at h
  · cases h
  · rename_i hc
    rw [Option.map_eq_some_iff] at h
    obtain ⟨m, hm, rfl⟩ := h
    have hlen : w.length ≤ 10 := by
      unfold trimM at hc
      split at hc
      · rw [List.length_tail] at hc; omega
      · omega
    refine ⟨?_, hlen⟩
    cases w with
    | nil => exact absurd (.inl rfl) hc
    | cons c r =>
      by_cases hm45 : c = 45
      · subst hm45
        have hd : Lib.decFrom 0 r = some m := hm
        have hr : r ≠ [] := fun g => hc (.inl g)
        show (Lib.decNat r).map _ = _
        unfold Lib.decNat
        rw [if_neg (by simpa using hr), hd]
        rfl
      · have ht : trimM (c :: r) = c :: r := by unfold trimM; rw [if_neg (by simpa using hm45)]
        rw [ht] at hm
        obtain ⟨d, hd⟩ := Lib.digit_of_decFrom _ _ _ hm 0 c rfl
        have hd := Lib.digitVal_eq hd
        have h43 : (c == 43) = false := by rw [beq_eq_false_iff_ne]; rintro rfl; exact absurd hd.1 (by decide)
        have h45 : (c == 45) = false := by rw [beq_eq_false_iff_ne]; exact hm45
        show (if c == 45 then _ else if c == 43 then _ else (Lib.decNat (c :: r)).map _) = _
        rw [h45, h43]
        simp only [Bool.false_eq_true, if_false]
        unfold Lib.decNat
        rw [if_neg (by simp), hm]
        simp [hm45]
/-- So many numbers, and what is left. -/
def numsF : Nat → List UInt8 → Option (List Int × List UInt8)
  | 0, t => some ([], t)
  | n + 1, t => match numP (wordF t).1 with
    | none => none
    | some v => (numsF n (wordF t).2).map fun x => (v :: x.1, x.2)
/-- A command: the letter of its kind, its numbers, its data. -/
structure Cm where
  kind : Nat
  a : Int
  b : Int
  data : List UInt8
open Classical in
/-- What a text that is told tells, and how long it is told. -/
noncomputable def rdF (l : List UInt8) : Option (List UInt8 × Nat) := if h : ∃ x : List UInt8 × Nat, RdQ l x.1 x.2 0 then some (Classical.choose h) else none
theorem rd_some {l s : List UInt8} {n : Nat} (h : RdQ l s n 0) : rdF l = some (s, n) := by
  have hex : ∃ x : List UInt8 × Nat, RdQ l x.1 x.2 0 := ⟨(s, n), h⟩
  unfold rdF
  rw [dif_pos hex]
  have := (Classical.choose_spec hex).unique h
  exact congrArg some (Prod.ext this.1 this.2.1)
theorem rd_none {l s : List UInt8} {n e : Nat} (h : RdQ l s n e) (he : e ≠ 0) : rdF l = none := by
  unfold rdF
  rw [dif_neg]
  rintro ⟨x, hx⟩
  exact he (h.unique hx).2.2
/-- A command of some numbers. -/
def restF (k n : Nat) (r : List UInt8) : Option Cm := match numsF n r with
  | some (l, r2) => if (wordF r2).1 = [] then some ⟨k, l.getD 0 0, l.getD 1 0, []⟩ else none
  | none => none
noncomputable def writeF (r : List UInt8) : Option Cm := match numsF 2 r with
  | some (l, r2) => match rdF (dropB r2) with
    | some (s, n) => if (wordF ((dropB r2).drop n)).1 = [] then some ⟨119, l.getD 0 0, l.getD 1 0, s⟩ else none
    | none => none
  | none => none
def wWrite : List UInt8 := [119, 114, 105, 116, 101]
def wRead : List UInt8 := [114, 101, 97, 100]
def wTrim : List UInt8 := [116, 114, 105, 109]
def wCut : List UInt8 := [99, 117, 116]
def wFail : List UInt8 := [102, 97, 105, 108]
def wMount : List UInt8 := [109, 111, 117, 110, 116]
def wShow : List UInt8 := [115, 104, 111, 119]
def wStat : List UInt8 := [115, 116, 97, 116]
/-- A line's command. -/
noncomputable def lineF (l : List UInt8) : Option Cm :=
  if (wordF l).1 = wWrite then writeF (wordF l).2
  else if (wordF l).1 = wRead then restF 114 2 (wordF l).2
  else if (wordF l).1 = wTrim then restF 116 2 (wordF l).2
  else if (wordF l).1 = wCut then restF 99 1 (wordF l).2
  else if (wordF l).1 = wFail then restF 102 1 (wordF l).2
  else if (wordF l).1 = wMount then (if (wordF (wordF l).2).1 = [] then some ⟨109, -1, 0, []⟩ else restF 109 1 (wordF l).2)
  else if (wordF l).1 = wShow then restF 115 0 (wordF l).2
  else if (wordF l).1 = wStat then restF 105 0 (wordF l).2 else none
end Go.Mo
namespace Go.Mo
open Go Go.Sl
theorem nums_next {n i : Nat} {t s : List UInt8} {acc : List Int} {v : Int} (hi : i < n) (h : numsF n t = (numsF (n - i) s).map fun x => (acc ++ x.1, x.2)) (hv : numP (wordF s).1 = some v) :
    numsF n t = (numsF (n - (i + 1)) (wordF s).2).map fun x => ((acc ++ [v]) ++ x.1, x.2) := by
  obtain ⟨k, hk⟩ : ∃ k, n - i = k + 1 := ⟨n - i - 1, by omega⟩
  rw [h, hk, show n - (i + 1) = k from by omega]
  show ((match numP (wordF s).1 with | none => none | some v => (numsF k (wordF s).2).map fun x => (v :: x.1, x.2)) : Option _).map _ = _
  rw [hv]
  dsimp only
  rw [Option.map_map]
  congr 1
  funext x
  simp
theorem nums_bad {n i : Nat} {t s : List UInt8} {acc : List Int} (hi : i < n) (h : numsF n t = (numsF (n - i) s).map fun x => (acc ++ x.1, x.2)) (hv : numP (wordF s).1 = none) : numsF n t = none := by
  obtain ⟨k, hk⟩ : ∃ k, n - i = k + 1 := ⟨n - i - 1, by omega⟩
  rw [h, hk]
  show ((match numP (wordF s).1 with | none => none | some v => (numsF k (wordF s).2).map fun x => (v :: x.1, x.2)) : Option _).map _ = _
  rw [hv]
  rfl
theorem nums_end {n i : Nat} {t s : List UInt8} {acc : List Int} (hi : i = n) (h : numsF n t = (numsF (n - i) s).map fun x => (acc ++ x.1, x.2)) : numsF n t = some (acc, s) := by
  subst hi
  rw [h, Nat.sub_self]
  show some (acc ++ [], s) = _
  rw [List.append_nil]
theorem nums_len : ∀ (n : Nat) (t : List UInt8) (acc : List Int) (r : List UInt8), numsF n t = some (acc, r) → acc.length = n
  | 0, t, acc, r, h => by cases h; rfl
  | n + 1, t, acc, r, h => by
    unfold numsF at h
    split at h
    · cases h
    · rw [Option.map_eq_some_iff] at h
      obtain ⟨x, h1, h2⟩ := h
      cases h2
      rw [List.length_cons, nums_len n _ x.1 x.2 h1]
theorem nums_lt : ∀ (n : Nat) (t : List UInt8) (acc : List Int) (r : List UInt8), numsF n t = some (acc, r) → ∀ v ∈ acc, -999999999 ≤ v ∧ v ≤ 999999999
  | 0, t, acc, r, h, v, hv => by cases h; cases hv
  | n + 1, t, acc, r, h, v, hv => by
    unfold numsF at h
    split at h
    · cases h
    · rename_i u hu
      rw [Option.map_eq_some_iff] at h
      obtain ⟨x, h1, h2⟩ := h
      cases h2
      rcases List.mem_cons.1 hv with rfl | hv
      · exact numP_lt hu
      · exact nums_lt n _ x.1 x.2 h1 v hv
theorem two_acc {acc : List Int} (h : acc.length = 2) : ∃ x y, acc = [x, y] := by
  match acc, h with
  | [x, y], _ => exact ⟨x, y, rfl⟩
theorem one_acc {acc : List Int} (h : acc.length = 1) : ∃ x, acc = [x] := by
  match acc, h with
  | [x], _ => exact ⟨x, rfl⟩
/-- Which command a word begins: the letter, how many numbers; 0: none. -/
def KindQ (l : List UInt8) (many kind : Nat) : Prop :=
  (wordF l).1 ≠ wWrite ∧ ((kind = 114 ∧ (wordF l).1 = wRead ∧ many = 2) ∨ (kind = 116 ∧ (wordF l).1 = wTrim ∧ many = 2) ∨ (kind = 99 ∧ (wordF l).1 = wCut ∧ many = 1) ∨ (kind = 102 ∧ (wordF l).1 = wFail ∧ many = 1) ∨
    (kind = 109 ∧ (wordF l).1 = wMount ∧ many = 1 ∧ (wordF (wordF l).2).1 ≠ []) ∨
    (many = 0 ∧ (wordF l).1 ≠ wRead ∧ (wordF l).1 ≠ wTrim ∧ (wordF l).1 ≠ wCut ∧ (wordF l).1 ≠ wFail ∧ (wordF l).1 ≠ wMount ∧
      ((kind = 115 ∧ (wordF l).1 = wShow) ∨ (kind = 105 ∧ (wordF l).1 = wStat) ∨ (kind = 0 ∧ (wordF l).1 ≠ wShow ∧ (wordF l).1 ≠ wStat))))
theorem line_kind {l : List UInt8} {many kind : Nat} (h : KindQ l many kind) : (kind ≠ 0 ∧ lineF l = restF kind many (wordF l).2) ∨ (kind = 0 ∧ lineF l = none) := by
  obtain ⟨h0, h⟩ := h
  unfold lineF
  rw [if_neg h0]
  rcases h with ⟨rfl, h, rfl⟩ | ⟨rfl, h, rfl⟩ | ⟨rfl, h, rfl⟩ | ⟨rfl, h, rfl⟩ | ⟨rfl, h, rfl, h6⟩ | ⟨rfl, h1, h2, h3, h4, h5, ⟨rfl, h⟩ | ⟨rfl, h⟩ | ⟨rfl, h6, h7⟩⟩
  · left; rw [if_pos h]; exact ⟨by omega, rfl⟩
  · left; rw [h, if_neg (by decide), if_pos rfl]; exact ⟨by omega, rfl⟩
  · left; rw [h, if_neg (by decide), if_neg (by decide), if_pos rfl]; exact ⟨by omega, rfl⟩
  · left; rw [h, if_neg (by decide), if_neg (by decide), if_neg (by decide), if_pos rfl]; exact ⟨by omega, rfl⟩
  · left; rw [if_neg (by rw [h]; decide), if_neg (by rw [h]; decide), if_neg (by rw [h]; decide), if_neg (by rw [h]; decide), if_pos h, if_neg h6]; exact ⟨by omega, rfl⟩
  · left; rw [if_neg h1, if_neg h2, if_neg h3, if_neg h4, if_neg h5, if_pos h]; exact ⟨by omega, rfl⟩
  · left; rw [if_neg h1, if_neg h2, if_neg h3, if_neg h4, if_neg h5, if_neg (by rw [h]; decide), if_pos h]; exact ⟨by omega, rfl⟩
  · right; rw [if_neg h1, if_neg h2, if_neg h3, if_neg h4, if_neg h5, if_neg h6, if_neg h7]; exact ⟨rfl, rfl⟩
theorem line_none {l : List UInt8} {many kind : Nat} (h : KindQ l many kind) (hn : numsF many (wordF l).2 = none) : lineF l = none := by
  rcases line_kind h with ⟨_, h⟩ | ⟨_, h⟩
  · rw [h]; unfold restF; rw [hn]
  · exact h
theorem line_left {l r2 : List UInt8} {acc : List Int} {many kind : Nat} (h : KindQ l many kind) (hn : numsF many (wordF l).2 = some (acc, r2)) (he : (wordF r2).1 ≠ []) : lineF l = none := by
  rcases line_kind h with ⟨_, h⟩ | ⟨_, h⟩
  · rw [h]; unfold restF; rw [hn]; exact if_neg he
  · exact h
theorem line_yes {l r2 : List UInt8} {acc : List Int} {many kind : Nat} (h : KindQ l many kind) (hk : kind ≠ 0) (hn : numsF many (wordF l).2 = some (acc, r2)) (he : (wordF r2).1 = []) : lineF l = some ⟨kind, acc.getD 0 0, acc.getD 1 0, []⟩ := by
  rcases line_kind h with ⟨_, h⟩ | ⟨h, _⟩
  · rw [h]; unfold restF; rw [hn]; exact if_pos he
  · exact absurd h hk
theorem line_unknown {l : List UInt8} {many : Nat} (h : KindQ l many 0) : lineF l = none := by
  rcases line_kind h with ⟨h, _⟩ | ⟨_, h⟩
  · exact absurd rfl h
  · exact h
theorem kind_of {l : List UInt8} {many kind : Nat} (h : KindQ l many kind) :
    ((wordF l).1 = wRead → kind = 114 ∧ many = 2) ∧ ((wordF l).1 = wTrim → kind = 116 ∧ many = 2) ∧ ((wordF l).1 = wCut → kind = 99 ∧ many = 1) ∧ ((wordF l).1 = wFail → kind = 102 ∧ many = 1) ∧ ((wordF l).1 = wMount → kind = 109 ∧ many = 1) ∧
    ((wordF l).1 = wShow → kind = 115) ∧ ((wordF l).1 = wStat → kind = 105) ∧
    ((wordF l).1 ≠ wRead → (wordF l).1 ≠ wTrim → (wordF l).1 ≠ wCut → (wordF l).1 ≠ wFail → (wordF l).1 ≠ wMount → (wordF l).1 ≠ wShow → (wordF l).1 ≠ wStat → kind = 0) := by
  obtain ⟨h0, h⟩ := h
  generalize (wordF l).1 = w at h0 h ⊢
  rcases h with ⟨rfl, rfl, rfl⟩ | ⟨rfl, rfl, rfl⟩ | ⟨rfl, rfl, rfl⟩ | ⟨rfl, rfl, rfl⟩ | ⟨rfl, rfl, rfl, h6⟩ | ⟨rfl, h1, h2, h3, h4, h5, ⟨rfl, rfl⟩ | ⟨rfl, rfl⟩ | ⟨rfl, h6, h7⟩⟩
  all_goals refine ⟨fun g => ?_, fun g => ?_, fun g => ?_, fun g => ?_, fun g => ?_, fun g => ?_, fun g => ?_, fun g1 g2 g3 g4 g5 g6 g7 => ?_⟩
  all_goals first | exact ⟨rfl, rfl⟩ | rfl | (exact absurd rfl (by assumption)) | (exact absurd g (by decide)) | (exact absurd g (by assumption))
theorem write_none {r : List UInt8} (h : numsF 2 r = none) : writeF r = none := by unfold writeF; rw [h]
theorem write_bad {r r2 s : List UInt8} {acc : List Int} {n e : Nat} (h : numsF 2 r = some (acc, r2)) (hr : RdQ (dropB r2) s n e) (he : e ≠ 0) : writeF r = none := by
  unfold writeF
  rw [h]
  dsimp only
  rw [rd_none hr he]
theorem write_good {r r2 s : List UInt8} {acc : List Int} {n : Nat} (h : numsF 2 r = some (acc, r2)) (hr : RdQ (dropB r2) s n 0) : writeF r = if (wordF ((dropB r2).drop n)).1 = [] then some ⟨119, acc.getD 0 0, acc.getD 1 0, s⟩ else none := by
  unfold writeF
  rw [h]
  dsimp only
  rw [rd_some hr]
theorem rd_le {l s : List UInt8} {n e : Nat} (h : RdQ l s n e) : n ≤ l.length := by
  rcases h with ⟨_, tl, h1, h2⟩ | ⟨_, _, h, _⟩
  · rw [h1, h2, List.length_append]; omega
  · omega
theorem dropB_len (l : List UInt8) : (dropB l).length ≤ l.length := by unfold dropB; rw [List.length_drop]; omega
end Go.Mo
set_option maxRecDepth 100000
namespace Go.Mo
open Go Go.Sl
/-- A text, cut at each end of a line. -/
def cutsF : List UInt8 → List (List UInt8)
  | [] => [[]]
  | c :: r => if c = 10 then [] :: cutsF r else match cutsF r with
    | x :: xs => (c :: x) :: xs
    | [] => [[c]]
theorem cutsF_ne : ∀ l, cutsF l ≠ []
  | [] => by simp [cutsF]
  | c :: r => by
    unfold cutsF
    split
    · simp
    · split <;> simp
theorem cutsF_index : ∀ l : List UInt8, (Lib.index l [10] = -1 → cutsF l = [l] ∧ l.count 10 = 0) ∧ (∀ i : Nat, Lib.index l [10] = i → cutsF l = l.take i :: cutsF (l.drop (i + 1)) ∧ l.count 10 = (l.drop (i + 1)).count 10 + 1)
  | [] => ⟨fun _ => ⟨rfl, rfl⟩, fun i h => by
      have h : (-1 : Int) = i := h
      omega⟩
  | c :: r => by
    have ih := cutsF_index r
    by_cases hc : c = 10
    · subst hc
      have e : Lib.index (10 :: r) [10] = 0 := by unfold Lib.index; rw [if_pos (by simp [List.isPrefixOf])]
      refine ⟨fun h => by rw [e] at h; omega, fun i h => ?_⟩
      rw [e] at h
      obtain rfl : i = 0 := by omega
      exact ⟨show cutsF (10 :: r) = [] :: cutsF r from if_pos rfl, by rw [List.count_cons_self]; rfl⟩
    · have e : Lib.index (c :: r) [10] = if Lib.index r [10] == -1 then -1 else Lib.index r [10] + 1 := by
        conv => lhs; unfold Lib.index
        rw [if_neg (by simp [List.isPrefixOf]; exact fun h => hc h.symm)]
      have e2 : cutsF (c :: r) = match cutsF r with | x :: xs => (c :: x) :: xs | [] => [[c]] := by
        conv => lhs; unfold cutsF
        rw [if_neg hc]
      have e3 : (c :: r).count 10 = r.count 10 := List.count_cons_of_ne hc
      refine ⟨fun h => ?_, fun i h => ?_⟩
      · rw [e] at h
        have h1 : Lib.index r [10] = -1 := by
          split at h
          · rename_i g; simpa using g
          · have := Lib.index_ge r [10]; omega
        rw [e2, (ih.1 h1).1, e3]
        exact ⟨rfl, (ih.1 h1).2⟩
      · rw [e] at h
        split at h
        · omega
        · rename_i g
          have g : Lib.index r [10] ≠ -1 := by simpa using g
          have := Lib.index_ge r [10]
          obtain ⟨j, hj⟩ := Int.eq_ofNat_of_zero_le (show 0 ≤ Lib.index r [10] by omega)
          obtain rfl : i = j + 1 := by omega
          obtain ⟨h1, h2⟩ := ih.2 j hj
          rw [e2, h1, e3]
          exact ⟨rfl, h2⟩
theorem splitK_cuts : ∀ (k : Nat) (l : List UInt8), l.count 10 ≤ k → Lib.splitK [10] 0 k l = cutsF l
  | 0, l, h => by
    have hi : Lib.index l [10] = -1 := by
      rcases Int.lt_or_le (Lib.index l [10]) 0 with g | g
      · have := Lib.index_ge l [10]; omega
      · obtain ⟨j, hj⟩ := Int.eq_ofNat_of_zero_le g
        have := ((cutsF_index l).2 j hj).2
        omega
    rw [((cutsF_index l).1 hi).1]
    rfl
  | k + 1, l, h => by
    unfold Lib.splitK
    split
    · rename_i g
      rw [((cutsF_index l).1 (by simpa using g)).1]
    · rename_i g
      have g : Lib.index l [10] ≠ -1 := by simpa using g
      have := Lib.index_ge l [10]
      obtain ⟨j, hj⟩ := Int.eq_ofNat_of_zero_le (show 0 ≤ Lib.index l [10] by omega)
      obtain ⟨h1, h2⟩ := (cutsF_index l).2 j hj
      rw [h1, hj]
      show l.take (j + 0) :: Lib.splitK [10] 0 k (l.drop (j + 1)) = _
      rw [Nat.add_zero, splitK_cuts k _ (by omega)]
theorem cutsF_mem : ∀ (l x : List UInt8), x ∈ cutsF l → x.length ≤ l.length ∧ NoNl x
  | [], x, h => by
    unfold cutsF at h
    rw [List.mem_singleton] at h
    subst h
    exact ⟨Nat.le_refl _, fun c hc => by cases hc⟩
  | c :: r, x, h => by
    unfold cutsF at h
    split at h
    · rcases List.mem_cons.1 h with rfl | h
      · exact ⟨Nat.zero_le _, fun c hc => by cases hc⟩
      · have := cutsF_mem r x h
        exact ⟨by rw [List.length_cons]; omega, this.2⟩
    · rename_i hc
      cases hq : cutsF r with
      | nil => exact absurd hq (cutsF_ne r)
      | cons y ys =>
        rw [hq] at h
        rcases List.mem_cons.1 h with rfl | h
        · have := cutsF_mem r y (by rw [hq]; exact List.mem_cons_self ..)
          refine ⟨by simp only [List.length_cons]; omega, fun d hd => ?_⟩
          rcases List.mem_cons.1 hd with rfl | hd
          · exact hc
          · exact this.2 d hd
        · have := cutsF_mem r x (by rw [hq]; exact List.mem_cons_of_mem _ h)
          exact ⟨by rw [List.length_cons]; omega, this.2⟩
/-- A text's lines. -/
def linesF (t : List UInt8) : List (List UInt8) := if (cutsF t).getLast (cutsF_ne t) = [] then (cutsF t).dropLast else cutsF t
theorem linesF_mem {t x : List UInt8} (h : x ∈ linesF t) : x.length ≤ t.length ∧ NoNl x := by
  unfold linesF at h
  split at h
  · exact cutsF_mem t x ((List.dropLast_subset _) h)
  · exact cutsF_mem t x h
/-- Is a line passed over? -/
def SkipQ (l : List UInt8) : Prop := (wordF l).1 = [] ∨ at0 (wordF l).1 0 = 35
instance (l : List UInt8) : Decidable (SkipQ l) := by unfold SkipQ; exact inferInstance
/-- The commands of some lines, or the first line that is none. -/
noncomputable def parsG : Nat → List (List UInt8) → Nat ⊕ List Cm
  | _, [] => .inr []
  | i, l :: ls => if SkipQ l then parsG (i + 1) ls else match lineF l with
    | none => .inl (i + 1)
    | some c => match parsG (i + 1) ls with
      | .inl k => .inl k
      | .inr cs => .inr (c :: cs)
def mapR (acc : List Cm) : Nat ⊕ List Cm → Nat ⊕ List Cm
  | .inl k => .inl k
  | .inr cs => .inr (acc ++ cs)
theorem mapR_nil (x : Nat ⊕ List Cm) : mapR [] x = x := by cases x <;> rfl
theorem pars_skip {ls : List (List UInt8)} {i : Nat} {acc : List Cm} {R : Nat ⊕ List Cm} (hi : i < ls.length) (h : R = mapR acc (parsG i (ls.drop i))) (hs : SkipQ ls[i]) : R = mapR acc (parsG (i + 1) (ls.drop (i + 1))) := by
  rw [List.drop_eq_getElem_cons hi] at h
  rw [h]
  conv => lhs; unfold parsG
  rw [if_pos hs]
theorem pars_bad {ls : List (List UInt8)} {i : Nat} {acc : List Cm} {R : Nat ⊕ List Cm} (hi : i < ls.length) (h : R = mapR acc (parsG i (ls.drop i))) (hs : ¬ SkipQ ls[i]) (hl : lineF ls[i] = none) : R = .inl (i + 1) := by
  rw [List.drop_eq_getElem_cons hi] at h
  rw [h]
  conv => lhs; unfold parsG
  rw [if_neg hs, hl]
  rfl
theorem pars_good {ls : List (List UInt8)} {i : Nat} {acc : List Cm} {R : Nat ⊕ List Cm} {c : Cm} (hi : i < ls.length) (h : R = mapR acc (parsG i (ls.drop i))) (hs : ¬ SkipQ ls[i]) (hl : lineF ls[i] = some c) : R = mapR (acc ++ [c]) (parsG (i + 1) (ls.drop (i + 1))) := by
  rw [List.drop_eq_getElem_cons hi] at h
  rw [h]
  conv => lhs; unfold parsG
  rw [if_neg hs, hl]
  dsimp only
  cases parsG (i + 1) (ls.drop (i + 1)) with
  | inl k => rfl
  | inr cs => show Sum.inr (acc ++ (c :: cs)) = Sum.inr ((acc ++ [c]) ++ cs); simp
theorem pars_end {ls : List (List UInt8)} {i : Nat} {acc : List Cm} {R : Nat ⊕ List Cm} (hi : ls.length ≤ i) (h : R = mapR acc (parsG i (ls.drop i))) : R = .inr acc := by
  rw [h, List.drop_eq_nil_of_le hi]
  show Sum.inr (acc ++ []) = _
  rw [List.append_nil]
/-- What reads a text tells: the commands, the line of a fault, the error. -/
def ParseQ (t : List UInt8) (cs : List Cm) (n e : Nat) : Prop :=
  ((16384 < t.length ∨ 1000 < (linesF t).length) ∧ cs = [] ∧ n = 0 ∧ e = 2) ∨
  (¬ (16384 < t.length ∨ 1000 < (linesF t).length) ∧ ((parsG 0 (linesF t) = .inl n ∧ cs = [] ∧ e = 3) ∨ (parsG 0 (linesF t) = .inr cs ∧ n = 0 ∧ e = 0)))
theorem ParseQ.unique {t : List UInt8} {cs cs' : List Cm} {n n' e e' : Nat} (h : ParseQ t cs n e) (g : ParseQ t cs' n' e') : cs = cs' ∧ n = n' ∧ e = e' := by
  rcases h with ⟨h0, rfl, rfl, rfl⟩ | ⟨h0, ⟨h1, rfl, rfl⟩ | ⟨h1, rfl, rfl⟩⟩ <;> rcases g with ⟨g0, rfl, rfl, rfl⟩ | ⟨g0, ⟨g1, rfl, rfl⟩ | ⟨g1, rfl, rfl⟩⟩
  · exact ⟨rfl, rfl, rfl⟩
  · exact absurd h0 g0
  · exact absurd h0 g0
  · exact absurd g0 h0
  · rw [h1] at g1; cases g1; exact ⟨rfl, rfl, rfl⟩
  · rw [h1] at g1; cases g1
  · exact absurd g0 h0
  · rw [h1] at g1; cases g1
  · rw [h1] at g1; cases g1; exact ⟨rfl, rfl, rfl⟩
end Go.Mo
set_option maxRecDepth 100000
namespace Go.Mo
open Go Go.Sl
theorem itoa_pos (m : Nat) : Lib.itoa (m : Int) = Lib.decDigits m := by
  unfold Lib.itoa
  rw [if_neg (by omega), Int.toNat_natCast]
theorem itoa_neg {m : Nat} (h : 0 < m) : Lib.itoa (-(m : Int)) = 45 :: Lib.decDigits m := by
  unfold Lib.itoa
  rw [if_pos (by omega), Int.natAbs_neg, Int.natAbs_natCast]
theorem dd_small {m : Nat} (h : m < 10) : Lib.decDigits m = [UInt8.ofNat (48 + m)] := by rw [Lib.decDigits, dif_pos h]
theorem dd_big {m : Nat} (h : 10 ≤ m) : Lib.decDigits m = Lib.decDigits (m / 10) ++ [UInt8.ofNat (48 + m % 10)] := by
  conv => lhs; rw [Lib.decDigits, dif_neg (by omega)]
theorem dd_len : ∀ (k m : Nat), m < 10 ^ (k + 1) → (Lib.decDigits m).length ≤ k + 1
  | 0, m, h => by rw [dd_small (by omega)]; exact Nat.le_refl _
  | k + 1, m, h => by
    by_cases g : m < 10
    · rw [dd_small g]; simp
    · rw [dd_big (by omega), List.length_append]
      have := dd_len k (m / 10) (by rw [Nat.pow_succ] at h; omega)
      simp only [List.length_cons, List.length_nil]
      omega
theorem itoa_len {n : Int} (h : -999999999 ≤ n ∧ n ≤ 999999999) : (Lib.itoa n).length ≤ 10 := by
  rcases Int.lt_or_le n 0 with g | g
  · obtain ⟨m, hm⟩ := Int.eq_ofNat_of_zero_le (show 0 ≤ -n by omega)
    obtain rfl : n = -(m : Int) := by omega
    rw [itoa_neg (by omega), List.length_cons]
    have := dd_len 8 m (by omega)
    omega
  · obtain ⟨m, rfl⟩ := Int.eq_ofNat_of_zero_le g
    rw [itoa_pos]
    have := dd_len 8 m (by omega)
    omega
theorem itoa_lenW {n : Int} (h : -9223372036854775808 ≤ n ∧ n ≤ 9223372036854775807) : (Lib.itoa n).length ≤ 20 := by
  rcases Int.lt_or_le n 0 with g | g
  · obtain ⟨m, hm⟩ := Int.eq_ofNat_of_zero_le (show 0 ≤ -n by omega)
    obtain rfl : n = -(m : Int) := by omega
    rw [itoa_neg (by omega), List.length_cons]
    have := dd_len 18 m (by omega)
    omega
  · obtain ⟨m, rfl⟩ := Int.eq_ofNat_of_zero_le g
    rw [itoa_pos]
    have := dd_len 18 m (by omega)
    omega
/-- A number behind a blank. -/
def nT (n : Int) : List UInt8 := 32 :: Lib.itoa n
/-- A command's line. -/
def textF (c : Cm) : List UInt8 :=
  if c.kind = 114 then wRead ++ nT c.a ++ nT c.b else if c.kind = 119 then wWrite ++ nT c.a ++ nT c.b ++ (32 :: Qt c.data) else if c.kind = 116 then wTrim ++ nT c.a ++ nT c.b
  else if c.kind = 99 then wCut ++ nT c.a else if c.kind = 102 then wFail ++ nT c.a
  else if c.kind = 109 then (if c.a = -1 then wMount else wMount ++ nT c.a) else if c.kind = 115 then wShow else wStat
/-- Small numbers, few data; what a kind does not have is nothing. -/
structure CmOk (c : Cm) : Prop where
  a : -999999999 ≤ c.a ∧ c.a ≤ 999999999
  b : -999999999 ≤ c.b ∧ c.b ≤ 999999999
  data : c.data.length ≤ 100000000
  kind : c.kind = 119 ∨ (c.data = [] ∧ (c.kind = 114 ∨ c.kind = 116 ∨ (c.b = 0 ∧ (c.kind = 99 ∨ c.kind = 102 ∨ c.kind = 109 ∨ (c.a = 0 ∧ (c.kind = 115 ∨ c.kind = 105))))))
/-- The same with any numbers. -/
structure CmW (c : Cm) : Prop where
  a : -9223372036854775808 ≤ c.a ∧ c.a ≤ 9223372036854775807
  b : -9223372036854775808 ≤ c.b ∧ c.b ≤ 9223372036854775807
  data : c.data.length ≤ 100000000
  kind : c.kind = 119 ∨ (c.data = [] ∧ (c.kind = 114 ∨ c.kind = 116 ∨ (c.b = 0 ∧ (c.kind = 99 ∨ c.kind = 102 ∨ c.kind = 109 ∨ (c.a = 0 ∧ (c.kind = 115 ∨ c.kind = 105))))))
theorem CmOk.wide {c : Cm} (h : CmOk c) : CmW c := ⟨by have := h.a; omega, by have := h.b; omega, h.data, h.kind⟩
theorem getD_lt {acc : List Int} (h : ∀ v ∈ acc, -999999999 ≤ v ∧ v ≤ 999999999) (i : Nat) : -999999999 ≤ acc.getD i 0 ∧ acc.getD i 0 ≤ 999999999 := by
  rcases Nat.lt_or_ge i acc.length with g | g
  · rw [List.getD_eq_getElem?_getD, List.getElem?_eq_getElem g]; exact h _ (List.getElem_mem g)
  · rw [List.getD_eq_getElem?_getD, List.getElem?_eq_none g]; exact ⟨by decide, by decide⟩
theorem rest_ok {k n : Nat} {r : List UInt8} {c : Cm} (h : restF k n r = some c) (hk : (n = 2 ∧ (k = 114 ∨ k = 116)) ∨ (n = 1 ∧ (k = 99 ∨ k = 102 ∨ k = 109)) ∨ (n = 0 ∧ (k = 115 ∨ k = 105))) : CmOk c := by
  unfold restF at h
  split at h
  · rename_i l r2 hn
    split at h
    · cases h
      have hl := nums_len _ _ _ _ hn
      have hv := nums_lt _ _ _ _ hn
      refine ⟨getD_lt hv 0, getD_lt hv 1, Nat.zero_le _, .inr ⟨rfl, ?_⟩⟩
      rcases hk with ⟨rfl, h⟩ | ⟨rfl, h⟩ | ⟨rfl, h⟩
      · rcases h with h | h
        · exact .inl h
        · exact .inr (.inl h)
      · obtain ⟨x, rfl⟩ := one_acc hl
        refine .inr (.inr ⟨rfl, ?_⟩)
        rcases h with h | h | h
        · exact .inl h
        · exact .inr (.inl h)
        · exact .inr (.inr (.inl h))
      · obtain rfl : l = [] := List.eq_nil_of_length_eq_zero hl
        exact .inr (.inr ⟨rfl, .inr (.inr (.inr ⟨rfl, h⟩))⟩)
    · cases h
  · cases h
theorem wd_pc {s : List UInt8} (h : s ≠ []) : wdB s ≤ (pcB s).length := by
  have hw := wdB_pos h
  have hl : (s.take (wdB s)).length = wdB s := by rw [List.length_take]; omega
  have hq := pc_q h
  generalize hp : pcB s = p at hq ⊢
  generalize hx : s.take (wdB s) = x at hq hl
  cases hq with
  | raw _ _ _ => omega
  | esc c d _ => simp only [List.length_cons, List.length_nil] at hl ⊢; omega
  | byte b _ => simp only [List.length_cons, List.length_append, List.length_nil] at hl ⊢; omega
  | rune v _ =>
    have := enc_len1 (r := v)
    rw [List.length_append, hexN_length]
    omega
theorem len_qI : ∀ (n : Nat) (s : List UInt8), s.length ≤ n → s.length ≤ (qI s).length
  | 0, s, h => by omega
  | n + 1, s, h => by
    by_cases hs : s = []
    · subst hs; exact Nat.zero_le _
    · have hw := wdB_pos hs
      have := wd_pc hs
      have h2 := len_qI n (s.drop (wdB s)) (by rw [List.length_drop]; omega)
      rw [qI_step hs, List.length_append]
      rw [List.length_drop] at h2
      omega
theorem rd_len {l s : List UInt8} {n : Nat} (h : rdF l = some (s, n)) : s.length ≤ l.length := by
  unfold rdF at h
  split at h
  · rename_i hex
    have h2 := Classical.choose_spec hex
    simp only [Option.some.injEq] at h
    rw [h] at h2
    rcases h2 with ⟨_, tl, h3, _⟩ | ⟨h3, _⟩
    · have h4 := congrArg List.length h3
      rw [Qt_app] at h4
      have := len_qI _ s (Nat.le_refl _)
      simp only [List.length_cons, List.length_append] at h4
      omega
    · cases h3
  · cases h
theorem nums_rest : ∀ (n : Nat) (t : List UInt8) (acc : List Int) (r : List UInt8), numsF n t = some (acc, r) → r.length ≤ t.length
  | 0, t, acc, r, h => by cases h; exact Nat.le_refl _
  | n + 1, t, acc, r, h => by
    unfold numsF at h
    split at h
    · cases h
    · rw [Option.map_eq_some_iff] at h
      obtain ⟨x, h1, h2⟩ := h
      cases h2
      have := nums_rest n _ x.1 x.2 h1
      have := (word_len t).2
      omega
theorem write_ok {r : List UInt8} {c : Cm} (h : writeF r = some c) (hr : r.length ≤ 100000000) : CmOk c := by
  unfold writeF at h
  split at h
  · rename_i l r2 hn
    split at h
    · rename_i s n hrd
      split at h
      · cases h
        have hv := nums_lt _ _ _ _ hn
        have h1 := nums_rest _ _ _ _ hn
        have h2 := rd_len hrd
        have h3 := dropB_len r2
        exact ⟨getD_lt hv 0, getD_lt hv 1, by show s.length ≤ _; omega, .inl rfl⟩
      · cases h
    · cases h
  · cases h
theorem line_ok {l : List UInt8} {c : Cm} (h : lineF l = some c) (hl : l.length ≤ 100000000) : CmOk c := by
  have hw := (word_len l).2
  unfold lineF at h
  split at h
  · exact write_ok h (by omega)
  · split at h
    · exact rest_ok h (.inl ⟨rfl, .inl rfl⟩)
    · split at h
      · exact rest_ok h (.inl ⟨rfl, .inr rfl⟩)
      · split at h
        · exact rest_ok h (.inr (.inl ⟨rfl, .inl rfl⟩))
        · split at h
          · exact rest_ok h (.inr (.inl ⟨rfl, .inr (.inl rfl)⟩))
          · split at h
            · split at h
              · cases h
                exact ⟨⟨by decide, by decide⟩, ⟨by decide, by decide⟩, Nat.zero_le _, .inr ⟨rfl, .inr (.inr ⟨rfl, .inr (.inr (.inl rfl))⟩)⟩⟩
              · exact rest_ok h (.inr (.inl ⟨rfl, .inr (.inr rfl)⟩))
            · split at h
              · exact rest_ok h (.inr (.inr ⟨rfl, .inl rfl⟩))
              · split at h
                · exact rest_ok h (.inr (.inr ⟨rfl, .inr rfl⟩))
                · cases h
theorem pars_ok : ∀ (ls : List (List UInt8)) (i : Nat) (cs : List Cm), (∀ x ∈ ls, x.length ≤ 100000000) → parsG i ls = .inr cs → ∀ c ∈ cs, CmOk c
  | [], i, cs, _, h, c, hc => by cases h; cases hc
  | l :: ls, i, cs, hl, h, c, hc => by
    unfold parsG at h
    split at h
    · exact pars_ok ls _ cs (fun x hx => hl x (List.mem_cons_of_mem _ hx)) h c hc
    · split at h
      · cases h
      · rename_i d hd
        split at h
        · cases h
        · rename_i ds hds
          cases h
          rcases List.mem_cons.1 hc with rfl | hc
          · exact line_ok hd (hl l (List.mem_cons_self ..))
          · exact pars_ok ls _ ds (fun x hx => hl x (List.mem_cons_of_mem _ hx)) hds c hc
theorem parse_ok {t : List UInt8} {cs : List Cm} {n e : Nat} (ht : t.length ≤ 100000000) (h : ParseQ t cs n e) : ∀ c ∈ cs, CmOk c := by
  rcases h with ⟨_, rfl, _⟩ | ⟨_, ⟨_, rfl, _⟩ | ⟨h1, _⟩⟩
  · exact fun c hc => by cases hc
  · exact fun c hc => by cases hc
  · exact pars_ok _ _ _ (fun x hx => by have := (linesF_mem hx).1; omega) h1
end Go.Mo
set_option maxRecDepth 100000
namespace Go.Mo
open Go Go.Sl
instance (l : List UInt8) : Decidable (NoNl l) := by unfold NoNl; exact inferInstance
theorem cut_nl : ∀ {a r : List UInt8}, NoNl a → cutsF (a ++ 10 :: r) = a :: cutsF r
  | [], r, _ => by
    show cutsF (10 :: r) = _
    conv => lhs; unfold cutsF
    rw [if_pos rfl]
  | c :: a, r, h => by
    have ih := cut_nl (a := a) (r := r) (fun d hd => h d (List.mem_cons_of_mem _ hd))
    show cutsF (c :: (a ++ 10 :: r)) = _
    conv => lhs; unfold cutsF
    rw [if_neg (h c (List.mem_cons_self ..)), ih]
/-- Commands told, a line each. -/
def prF (cs : List Cm) : List UInt8 := (cs.map fun c => textF c ++ [10]).flatten
theorem prF_app (l m : List Cm) : prF (l ++ m) = prF l ++ prF m := by unfold prF; rw [List.map_append, List.flatten_append]
theorem prF_one (l : List Cm) (c : Cm) : prF (l ++ [c]) = prF l ++ (textF c ++ [10]) := by
  rw [prF_app]
  unfold prF
  simp
theorem lines_of {t : List UInt8} {L : List (List UInt8)} {x : List UInt8} (h : cutsF t = L ++ [x]) : linesF t = if x = [] then L else L ++ [x] := by
  unfold linesF
  have e : (cutsF t).getLast (cutsF_ne t) = x := by simp [h]
  rw [e]
  split
  · rw [h]; simp
  · exact h
/-- A command by numbers. -/
structure Sy where
  k : Int
  a : Int
  b : Int
  d : List UInt8
structure SyW (x : Sy) : Prop where
  a : -9223372036854775808 ≤ x.a ∧ x.a ≤ 9223372036854775807
  b : -9223372036854775808 ≤ x.b ∧ x.b ≤ 9223372036854775807
  d : x.d.length ≤ 2000000
structure SyOk (x : Sy) : Prop where
  a : -999999999 ≤ x.a ∧ x.a ≤ 999999999
  b : -999999999 ≤ x.b ∧ x.b ≤ 999999999
  d : x.d.length ≤ 20000
theorem text_len {c : Cm} (h : CmW c) : (textF c).length ≤ 6 * c.data.length + 60 := by
  have h1 := itoa_lenW h.a
  have h2 := itoa_lenW h.b
  have h3 := qI_len _ c.data (Nat.le_refl _)
  unfold textF
  repeat' split
  all_goals (simp only [nT, Qt, wRead, wWrite, wTrim, wCut, wFail, wMount, wShow, wStat, List.length_append, List.length_cons, List.length_nil]; omega)
end Go.Mo
set_option maxRecDepth 100000
namespace Go.Mo
open Go Go.Sl
theorem rest_data {k n : Nat} {r : List UInt8} {c : Cm} (h : restF k n r = some c) : c.data.length = 0 := by
  unfold restF at h
  split at h
  · split at h
    · cases h; rfl
    · cases h
  · cases h
theorem write_data {r : List UInt8} {c : Cm} (h : writeF r = some c) : c.data.length ≤ r.length := by
  unfold writeF at h
  split at h
  · rename_i l r2 hn
    split at h
    · rename_i s n hrd
      split at h
      · cases h
        have h1 := nums_rest _ _ _ _ hn
        have h2 := rd_len hrd
        have h3 := dropB_len r2
        show s.length ≤ _
        omega
      · cases h
    · cases h
  · cases h
theorem line_data {l : List UInt8} {c : Cm} (h : lineF l = some c) : c.data.length ≤ l.length := by
  have hw := (word_len l).2
  unfold lineF at h
  repeat' split at h
  all_goals first
    | (have := write_data h; omega)
    | (have := rest_data h; omega)
    | (cases h; exact Nat.zero_le _)
    | cases h
theorem pars_data : ∀ (ls : List (List UInt8)) (i m : Nat) (cs : List Cm), (∀ x ∈ ls, x.length ≤ m) → parsG i ls = .inr cs → cs.length ≤ ls.length ∧ ∀ c ∈ cs, c.data.length ≤ m
  | [], i, m, cs, _, h => by cases h; exact ⟨Nat.le_refl _, fun c hc => by cases hc⟩
  | l :: ls, i, m, cs, hl, h => by
    have hl2 := fun x hx => hl x (List.mem_cons_of_mem _ hx)
    unfold parsG at h
    split at h
    · have := pars_data ls _ m cs hl2 h
      exact ⟨by rw [List.length_cons]; omega, this.2⟩
    · split at h
      · cases h
      · rename_i d hd
        split at h
        · cases h
        · rename_i ds hds
          cases h
          have := pars_data ls _ m ds hl2 hds
          refine ⟨by simp only [List.length_cons]; omega, fun c hc => ?_⟩
          rcases List.mem_cons.1 hc with rfl | hc
          · have h1 := line_data hd
            have h2 := hl l (List.mem_cons_self ..)
            omega
          · exact this.2 c hc
theorem parse_data {t : List UInt8} {cs : List Cm} {n e : Nat} (h : ParseQ t cs n e) : cs.length ≤ (linesF t).length ∧ ∀ c ∈ cs, c.data.length ≤ t.length := by
  rcases h with ⟨_, rfl, _⟩ | ⟨_, ⟨_, rfl, _⟩ | ⟨h1, _⟩⟩
  · exact ⟨Nat.zero_le _, fun c hc => by cases hc⟩
  · exact ⟨Nat.zero_le _, fun c hc => by cases hc⟩
  · exact pars_data _ _ _ _ (fun x hx => (linesF_mem hx).1) h1
theorem pr_bound : ∀ (cs : List Cm) (m : Nat), (∀ c ∈ cs, CmW c ∧ c.data.length ≤ m) → (prF cs).length ≤ (6 * m + 61) * cs.length
  | [], m, _ => Nat.zero_le _
  | c :: cs, m, h => by
    have h1 := h c (List.mem_cons_self ..)
    have ih := pr_bound cs m fun y hy => h y (List.mem_cons_of_mem _ hy)
    have h2 := text_len h1.1
    have h3 := h1.2
    have e : prF (c :: cs) = (textF c ++ [10]) ++ prF cs := rfl
    rw [e, List.length_cons, Nat.mul_add, Nat.mul_one]
    simp only [List.length_append, List.length_cons, List.length_nil]
    omega
theorem cuts_join : ∀ a b : List UInt8, cutsF (a ++ 10 :: b) = cutsF a ++ cutsF b
  | [], b => cut_nl (a := []) (by decide)
  | c :: a, b => by
    have ih := cuts_join a b
    show cutsF (c :: (a ++ 10 :: b)) = _
    by_cases h : c = 10
    · subst h
      conv => lhs; unfold cutsF
      conv => rhs; arg 1; unfold cutsF
      rw [if_pos rfl, if_pos rfl, ih]
      rfl
    · conv => lhs; unfold cutsF
      conv => rhs; arg 1; unfold cutsF
      rw [if_neg h, if_neg h, ih]
      cases hq : cutsF a with
      | nil => exact absurd hq (cutsF_ne a)
      | cons x xs => rfl
theorem lines_join (a b : List UInt8) : linesF (a ++ 10 :: b) = cutsF a ++ linesF b := by
  obtain ⟨L, x, hx⟩ : ∃ L x, cutsF b = L ++ [x] := ⟨(cutsF b).dropLast, (cutsF b).getLast (cutsF_ne b), (List.dropLast_concat_getLast (cutsF_ne b)).symm⟩
  have h1 := lines_of hx
  have h2 : cutsF (a ++ 10 :: b) = (cutsF a ++ L) ++ [x] := by rw [cuts_join, hx, List.append_assoc]
  rw [lines_of h2, h1]
  split
  · rfl
  · rw [List.append_assoc]
theorem cuts_lines (a : List UInt8) : cutsF a = linesF a ∨ cutsF a = linesF a ++ [[]] := by
  obtain ⟨L, x, hx⟩ : ∃ L x, cutsF a = L ++ [x] := ⟨(cutsF a).dropLast, (cutsF a).getLast (cutsF_ne a), (List.dropLast_concat_getLast (cutsF_ne a)).symm⟩
  have h1 := lines_of hx
  split at h1
  · rename_i h
    subst h
    exact .inr (by rw [h1, hx])
  · exact .inl (by rw [h1, hx])
theorem pars_app : ∀ (L M : List (List UInt8)) (i : Nat), parsG i (L ++ M) = match parsG i L with
    | .inl k => .inl k
    | .inr cs => mapR cs (parsG (i + L.length) M)
  | [], M, i => by
    show parsG i M = mapR [] (parsG i M)
    rw [mapR_nil]
  | l :: L, M, i => by
    have ih := pars_app L M (i + 1)
    have e : i + 1 + L.length = i + (l :: L).length := by rw [List.length_cons]; omega
    rw [e] at ih
    show parsG i (l :: (L ++ M)) = _
    by_cases hs : SkipQ l
    · have h1 : parsG i (l :: (L ++ M)) = parsG (i + 1) (L ++ M) := by
        conv => lhs; unfold parsG
        rw [if_pos hs]
      have h2 : parsG i (l :: L) = parsG (i + 1) L := by
        conv => lhs; unfold parsG
        rw [if_pos hs]
      rw [h1, h2]
      exact ih
    · cases hl : lineF l with
      | none =>
        have h1 : ∀ X, parsG i (l :: X) = .inl (i + 1) := fun X => by
          conv => lhs; unfold parsG
          rw [if_neg hs, hl]
        rw [h1, h1]
      | some c =>
        have h1 : ∀ X, parsG i (l :: X) = mapR [c] (parsG (i + 1) X) := fun X => by
          conv => lhs; unfold parsG
          rw [if_neg hs, hl]
          dsimp only
          cases parsG (i + 1) X <;> rfl
        rw [h1, h1, ih]
        cases parsG (i + 1) L with
        | inl k => rfl
        | inr cs =>
          show mapR [c] (mapR cs _) = mapR (c :: cs) _
          cases parsG (i + (l :: L).length) M <;> rfl
/-- The line of a fault, so many lines further. -/
def shR (d : Nat) : Nat ⊕ List Cm → Nat ⊕ List Cm
  | .inl k => .inl (k + d)
  | .inr cs => .inr cs
theorem pars_shift : ∀ (L : List (List UInt8)) (i d : Nat), parsG (i + d) L = shR d (parsG i L)
  | [], i, d => rfl
  | l :: L, i, d => by
    have ih := pars_shift L (i + 1) d
    rw [show i + 1 + d = i + d + 1 from by omega] at ih
    by_cases hs : SkipQ l
    · conv => lhs; unfold parsG
      conv => rhs; unfold parsG
      rw [if_pos hs, if_pos hs]
      exact ih
    · conv => lhs; unfold parsG
      conv => rhs; unfold parsG
      rw [if_neg hs, if_neg hs]
      cases lineF l with
      | none => show Sum.inl (i + d + 1) = Sum.inl (i + 1 + d); congr 1; omega
      | some c =>
        dsimp only
        rw [ih]
        cases parsG (i + 1) L <;> rfl
theorem pars_cuts (a : List UInt8) (M : List (List UInt8)) : parsG 0 (cutsF a ++ M) = match parsG 0 (linesF a) with
    | .inl k => .inl k
    | .inr cs => mapR cs (shR (cutsF a).length (parsG 0 M)) := by
  have hs := pars_shift M 0 (cutsF a).length
  rw [pars_app, hs]
  rcases cuts_lines a with h | h
  · rw [h]
  · have h1 := pars_app (linesF a) [[]] 0
    rw [← h] at h1
    rw [h1]
    cases parsG 0 (linesF a) with
    | inl k => rfl
    | inr cs =>
      have h2 : parsG (0 + (linesF a).length) [[]] = .inr [] := by
        conv => lhs; unfold parsG
        rw [if_pos (.inl rfl)]
        rfl
      dsimp only
      rw [h2]
      show mapR (cs ++ []) _ = _
      rw [List.append_nil]
/-- What reads two texts, one behind the other. -/
theorem join_law {a b : List UInt8} {k l al : List Cm} {n m t e f g : Nat} (ha : ParseQ a k n e) (hb : ParseQ b l m f) (hj : ParseQ ((a ++ [10]) ++ b) al t g) (h1 : a.length ≤ 7000) (h2 : b.length ≤ 7000) (h3 : (linesF a).length + (linesF b).length ≤ 900) :
    (e = 0 ∨ (e = 3 ∧ g = 3 ∧ t = n)) ∧ (e = 0 → f = 0 ∨ (f = 3 ∧ g = 3 ∧ m ≤ t)) ∧ (e = 0 → f = 0 → g = 0 ∧ al = k ++ l) := by
  have ej : (a ++ [10]) ++ b = a ++ 10 :: b := by simp
  rw [ej] at hj
  have hcl : (cutsF a).length ≤ (linesF a).length + 1 := by
    rcases cuts_lines a with h | h
    · rw [h]; omega
    · rw [h, List.length_append, List.length_cons, List.length_nil]; omega
  have hl : (linesF (a ++ 10 :: b)).length ≤ 1000 := by
    rw [lines_join, List.length_append]
    omega
  have hlen : (a ++ 10 :: b).length ≤ 16384 := by
    simp only [List.length_append, List.length_cons]
    omega
  have hp := pars_cuts a (linesF b)
  rw [← lines_join] at hp
  rcases hj with ⟨hj, _⟩ | ⟨_, hj⟩
  · omega
  rcases ha with ⟨ha, _⟩ | ⟨_, ha⟩
  · omega
  rcases hb with ⟨hb, _⟩ | ⟨_, hb⟩
  · omega
  rcases ha with ⟨ha, rfl, rfl⟩ | ⟨ha, rfl, rfl⟩
  · rw [ha] at hp
    rcases hj with ⟨hj, rfl, rfl⟩ | ⟨hj, rfl, rfl⟩
    · rw [hp] at hj
      cases hj
      exact ⟨.inr ⟨rfl, rfl, rfl⟩, fun h => by omega, fun h => by omega⟩
    · rw [hp] at hj
      cases hj
  · rw [ha] at hp
    dsimp only at hp
    refine ⟨.inl rfl, ?_⟩
    rcases hb with ⟨hb, rfl, rfl⟩ | ⟨hb, rfl, rfl⟩
    · rw [hb] at hp
      rcases hj with ⟨hj, rfl, rfl⟩ | ⟨hj, rfl, rfl⟩
      · rw [hp] at hj
        cases hj
        exact ⟨fun _ => .inr ⟨rfl, rfl, by omega⟩, fun _ h => by omega⟩
      · rw [hp] at hj
        cases hj
    · rw [hb] at hp
      rcases hj with ⟨hj, rfl, rfl⟩ | ⟨hj, rfl, rfl⟩
      · rw [hp] at hj
        cases hj
      · rw [hp] at hj
        cases hj
        exact ⟨fun _ => .inl rfl, fun _ _ => ⟨rfl, rfl⟩⟩
end Go.Mo
