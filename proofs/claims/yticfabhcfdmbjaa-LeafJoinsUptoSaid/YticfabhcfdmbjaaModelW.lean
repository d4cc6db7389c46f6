/-
  What leaf.Join answers of two streams' pages in any order, and with one page less, in plain words: no program in sight.
-/
import Derived.Test.YticfabhcfdmbjaaModelJ
set_option linter.unusedVariables false
set_option linter.unusedSimpArgs false
namespace Go.Mo
open Go Go.Sl
theorem mem_drop' {α : Type} {l : List α} {a : Nat} {q : α} : q ∈ l.drop a ↔ ∃ i, a ≤ i ∧ l[i]? = some q := by
  rw [List.mem_iff_getElem?]
  constructor
  · rintro ⟨i, hi⟩
    rw [List.getElem?_drop] at hi
    exact ⟨a + i, by omega, hi⟩
  · rintro ⟨i, h1, h2⟩
    exact ⟨i - a, by rw [List.getElem?_drop, show a + (i - a) = i from by omega]; exact h2⟩
theorem mem_take' {α : Type} {l : List α} {a : Nat} {q : α} : q ∈ l.take a ↔ ∃ i, i < a ∧ l[i]? = some q := by
  rw [List.mem_iff_getElem?]
  constructor
  · rintro ⟨i, hi⟩
    rw [List.getElem?_take] at hi
    split at hi
    · rename_i h; exact ⟨i, h, hi⟩
    · cases hi
  · rintro ⟨i, h1, h2⟩
    exact ⟨i, by rw [List.getElem?_take, if_pos h1]; exact h2⟩
theorem cutL_get {kind epoch group : Int} {b : List UInt8} {n i : Nat} {q : Pg} : (cutL kind epoch group b n)[i]? = some q ↔ i < n ∧ q = pageOf kind epoch group b i := by
  unfold cutL
  rw [List.getElem?_map]
  by_cases h : i < n
  · rw [List.getElem?_range h]
    simp only [Option.map_some, Option.some.injEq]
    exact ⟨fun e => ⟨h, e.symm⟩, fun e => e.2.symm⟩
  · rw [List.getElem?_eq_none (by simpa using h)]
    simp [h]
def k5 : Ky := ⟨3, 3, 5⟩
def k6 : Ky := ⟨3, 3, 6⟩
theorem key_page {kind epoch group : Int} {b : List UInt8} {i : Nat} : (pageOf kind epoch group b i).key = ⟨kind, epoch, group⟩ := rfl
/-- Two streams' pages: both streams. -/
theorem join_two {l m : List UInt8} (hl : l.length ≤ 65536) (hm : m.length ≤ 65536) {ps : List Pg} {ks : List Ky} (h : KeysOf ps ks)
    (hin : ∀ q, q ∈ ps ↔ (∃ i < pagesN l.length, q = pageOf 3 3 5 l i) ∨ (∃ i < pagesN m.length, q = pageOf 3 3 6 m i)) : joinKs ps ks = [(k5, l), (k6, m)] := by
  have hp1 := (pagesN_le hl).1
  have hp2 := (pagesN_le hm).1
  have hv : ∀ q ∈ ps, q.key = k5 ∨ q.key = k6 := fun q hq => by
    rcases (hin q).1 hq with ⟨i, _, rfl⟩ | ⟨i, _, rfl⟩
    · exact .inl rfl
    · exact .inr rfl
  rw [keys_two (k := k5) (l := k6) h (by decide) (fun q hq _ => hv q hq) ⟨_, (hin _).2 (.inl ⟨0, by omega, rfl⟩), .inr rfl, rfl⟩ ⟨_, (hin _).2 (.inr ⟨0, by omega, rfl⟩), .inr rfl, rfl⟩]
  have e1 : joinR ps k5 = some l := joinR_all (.inr rfl) hl (fun q hq _ hk => by
    rcases (hin q).1 hq with h | ⟨i, _, rfl⟩
    · exact h
    · exact absurd (show k6 = k5 from hk) (by decide)) (fun i hi => (hin _).2 (.inl ⟨i, hi, rfl⟩))
  have e2 : joinR ps k6 = some m := joinR_all (.inr rfl) hm (fun q hq _ hk => by
    rcases (hin q).1 hq with ⟨i, _, rfl⟩ | h
    · exact absurd (show k5 = k6 from hk) (by decide)
    · exact h) (fun i hi => (hin _).2 (.inr ⟨i, hi, rfl⟩))
  simp [joinKs, e1, e2]
/-- One page less: the other stream alone. -/
theorem join_less {l m : List UInt8} (hl : l.length ≤ 65536) (hm : m.length ≤ 65536) {ps : List Pg} {ks : List Ky} {d : Nat} (hd : d < pagesN l.length) (h : KeysOf ps ks)
    (hin : ∀ q, q ∈ ps ↔ (∃ i < pagesN l.length, i ≠ d ∧ q = pageOf 3 3 5 l i) ∨ (∃ i < pagesN m.length, q = pageOf 3 3 6 m i)) : joinKs ps ks = [(k6, m)] := by
  have hp2 := (pagesN_le hm).1
  have h6 : ∃ q ∈ ps, q.valid ∧ q.key = k6 := ⟨_, (hin _).2 (.inr ⟨0, by omega, rfl⟩), .inr rfl, rfl⟩
  have hv : ∀ q ∈ ps, q.key = k5 ∨ q.key = k6 := fun q hq => by
    rcases (hin q).1 hq with ⟨i, _, _, rfl⟩ | ⟨i, _, rfl⟩
    · exact .inl rfl
    · exact .inr rfl
  have e1 : joinR ps k5 = none := joinR_less (b := l) hl (fun q hq _ hk => by
    rcases (hin q).1 hq with ⟨i, hi, _, rfl⟩ | ⟨i, _, rfl⟩
    · exact ⟨i, hi, rfl⟩
    · exact absurd (show k6 = k5 from hk) (by decide)) hd (fun hq => by
    rcases (hin _).1 hq with ⟨i, _, hne, he⟩ | ⟨i, _, he⟩
    · have := congrArg (fun p => p.index) he
      have h2 : (d : Int) = (i : Int) := this
      omega
    · have := congrArg (fun p => p.group) he
      have h2 : (5 : Int) = 6 := this
      omega)
  have e2 : joinR ps k6 = some m := joinR_all (.inr rfl) hm (fun q hq _ hk => by
    rcases (hin q).1 hq with ⟨i, _, _, rfl⟩ | h
    · exact absurd (show k5 = k6 from hk) (by decide)
    · exact h) (fun i hi => (hin _).2 (.inr ⟨i, hi, rfl⟩))
  by_cases h5 : ∃ q ∈ ps, q.valid ∧ q.key = k5
  · rw [keys_two (k := k5) (l := k6) h (by decide) (fun q hq _ => hv q hq) h5 h6]
    simp [joinKs, e1, e2]
  · rw [keys_one (k := k6) h (fun q hq hqv => by
      rcases hv q hq with g | g
      · exact absurd ⟨q, hq, hqv, g⟩ h5
      · exact g) h6]
    simp [joinKs, e2]
/-- The pages as LeafWhole mixes them. -/
def mixP (L O : List Pg) (k : Nat) : List Pg := O.drop 1 ++ L.drop k ++ L.take (k + 1) ++ O.take 1
theorem mem_mix {L O : List Pg} {k : Nat} {q : Pg} : q ∈ mixP L O k ↔ q ∈ L ∨ q ∈ O := by
  unfold mixP
  simp only [List.mem_append]
  constructor
  · rintro (((h | h) | h) | h)
    · exact .inr (List.mem_of_mem_drop h)
    · exact .inl (List.mem_of_mem_drop h)
    · exact .inl (List.mem_of_mem_take h)
    · exact .inr (List.mem_of_mem_take h)
  · rintro (h | h)
    · obtain ⟨i, hi⟩ := List.mem_iff_getElem?.1 h
      by_cases g : k ≤ i
      · exact .inl (.inl (.inr (mem_drop'.2 ⟨i, g, hi⟩)))
      · exact .inl (.inr (mem_take'.2 ⟨i, by omega, hi⟩))
    · obtain ⟨i, hi⟩ := List.mem_iff_getElem?.1 h
      by_cases g : 1 ≤ i
      · exact .inl (.inl (.inl (mem_drop'.2 ⟨i, g, hi⟩)))
      · exact .inr (mem_take'.2 ⟨i, by omega, hi⟩)
def lessP (L O : List Pg) (d : Nat) : List Pg := L.take d ++ L.drop (d + 1) ++ O
theorem join_mix {l m : List UInt8} (hl : l.length ≤ 65536) (hm : m.length ≤ 65536) {ks : List Ky} {k : Nat} (h : KeysOf (mixP (cutL 3 3 5 l (pagesN l.length)) (cutL 3 3 6 m (pagesN m.length)) k) ks) :
    joinKs (mixP (cutL 3 3 5 l (pagesN l.length)) (cutL 3 3 6 m (pagesN m.length)) k) ks = [(k5, l), (k6, m)] :=
  join_two hl hm h (fun q => by rw [mem_mix, mem_cutL, mem_cutL])
theorem join_lessP {l m : List UInt8} (hl : l.length ≤ 65536) (hm : m.length ≤ 65536) {ks : List Ky} {d : Nat} (hd : d < pagesN l.length) (h : KeysOf (lessP (cutL 3 3 5 l (pagesN l.length)) (cutL 3 3 6 m (pagesN m.length)) d) ks) :
    joinKs (lessP (cutL 3 3 5 l (pagesN l.length)) (cutL 3 3 6 m (pagesN m.length)) d) ks = [(k6, m)] :=
  join_less hl hm hd h (fun q => by
    unfold lessP
    simp only [List.mem_append, mem_take', mem_drop', cutL_get, mem_cutL]
    constructor
    · rintro ((⟨i, h1, h2, rfl⟩ | ⟨i, h1, h2, rfl⟩) | h)
      · exact .inl ⟨i, h2, by omega, rfl⟩
      · exact .inl ⟨i, h2, by omega, rfl⟩
      · exact .inr h
    · rintro (⟨i, h1, h2, rfl⟩ | h)
      · by_cases g : i < d
        · exact .inl (.inl ⟨i, g, h1, rfl⟩)
        · exact .inl (.inr ⟨i, by omega, h1, rfl⟩)
      · exact .inr h)
theorem two_of {rs : List Sm} {k k' : Ky} {b b' : List UInt8} (h : rs.map (fun s => (s.key, s.bytes)) = [(k, b), (k', b')]) : ∃ s t, rs = [s, t] ∧ s.key = k ∧ s.bytes = b ∧ t.key = k' ∧ t.bytes = b' := by
  match rs, h with
  | [s, t], h =>
    simp only [List.map_cons, List.map_nil, List.cons.injEq, Prod.mk.injEq, and_true] at h
    exact ⟨s, t, rfl, h.1.1, h.1.2, h.2.1, h.2.2⟩
theorem mix_length {L O : List Pg} {k : Nat} (hk : k < L.length) (hO : 0 < O.length) : (mixP L O k).length = O.length + L.length + 1 := by
  unfold mixP
  simp only [List.length_append, List.length_drop, List.length_take]
  omega
theorem less_length {L O : List Pg} {d : Nat} (hd : d < L.length) : (lessP L O d).length = L.length - 1 + O.length := by
  unfold lessP
  simp only [List.length_append, List.length_drop, List.length_take]
  omega
theorem pgs_drop {l : List Pg} (h : ∀ p ∈ l, p.pay.length = 32) (a : Nat) : (pgs l).drop (a * 39) = pgs (l.drop a) := by
  induction l generalizing a with
  | nil => simp [pgs]
  | cons p l ih =>
    cases a with
    | zero => simp
    | succ a =>
      have hp := Pg.cells_length (h p (List.mem_cons_self ..))
      rw [List.drop_succ_cons, ← ih (fun q hq => h q (List.mem_cons_of_mem _ hq)), show pgs (p :: l) = p.cells ++ pgs l from by simp [pgs], List.drop_append, List.drop_eq_nil_of_le (by omega), List.nil_append, hp, show (a + 1) * 39 - 39 = a * 39 from by omega]
theorem pgs_take {l : List Pg} (h : ∀ p ∈ l, p.pay.length = 32) (a : Nat) : (pgs l).take (a * 39) = pgs (l.take a) := by
  induction l generalizing a with
  | nil => simp [pgs]
  | cons p l ih =>
    cases a with
    | zero => simp [pgs]
    | succ a =>
      have hp := Pg.cells_length (h p (List.mem_cons_self ..))
      rw [List.take_succ_cons, show pgs (p :: l.take a) = p.cells ++ pgs (l.take a) from by simp [pgs], ← ih (fun q hq => h q (List.mem_cons_of_mem _ hq)), show pgs (p :: l) = p.cells ++ pgs l from by simp [pgs], List.take_append, List.take_of_length_le (by omega), hp, show (a + 1) * 39 - 39 = a * 39 from by omega]
/-- A part of a row of pages. -/
theorem pgs_part {l : List Pg} {rest : List Value} (h : ∀ p ∈ l, p.pay.length = 32) {a n : Nat} (hn : a + n ≤ l.length) : ((pgs l ++ rest).drop (a * 39)).take (n * 39) = pgs ((l.drop a).take n) := by
  have hl := pgs_length h
  rw [List.drop_append_of_le_length (by rw [hl]; exact Nat.mul_le_mul_right _ (by omega)), pgs_drop h, List.take_append_of_le_length (by rw [pgs_length (fun p hp => h p (List.mem_of_mem_drop hp)), List.length_drop]; exact Nat.mul_le_mul_right _ (by omega)), pgs_take (fun p hp => h p (List.mem_of_mem_drop hp))]
theorem pgs_one {O : List Pg} (h : 0 < O.length) : pgs (O.take 1) = O[0].cells := by
  cases O with
  | nil => simp at h
  | cons p O => simp [pgs]
theorem src_part {P : Program} {Hs : List Assn} {b i cap a c' : Nat} {T : TypeId} {L : List Pg} {rest : List Value} (hn : nth Hs i = some (row b T (pgs L ++ rest))) (hp : ∀ p ∈ L, p.pay.length = 32) (hcap : L.length ≤ cap) (ha : a ≤ L.length) :
    Src P Hs (slc b (if cap = a then 0 else 0 + a * 39) (L.length - a) c') (L.length - a) 39 (pgs (L.drop a)) := by
  have hl := pgs_length hp
  by_cases h : cap = a
  · rw [if_pos h]
    have e : L.length - a = 0 := by omega
    have e2 : L.drop a = [] := List.drop_eq_nil_of_le (by omega)
    rw [e, e2]
    exact src_row hn (by omega) (by simp [pgs])
  · rw [if_neg h, Nat.zero_add]
    refine src_row hn ?_ ?_
    · rw [List.length_append, hl, ← Nat.add_mul, show a + (L.length - a) = L.length from by omega]
      omega
    · rw [pgs_part hp (by omega), List.take_of_length_le (by rw [List.length_drop]; omega)]
theorem src_take {P : Program} {Hs : List Assn} {b i a c' : Nat} {T : TypeId} {L : List Pg} {rest : List Value} (hn : nth Hs i = some (row b T (pgs L ++ rest))) (hp : ∀ p ∈ L, p.pay.length = 32) (ha : a ≤ L.length) :
    Src P Hs (slc b 0 a c') a 39 (pgs (L.take a)) := by
  have hl := pgs_length hp
  refine src_row hn ?_ ?_
  · rw [List.length_append, hl, Nat.zero_add]
    have := Nat.mul_le_mul_right 39 ha
    omega
  · have := pgs_part (rest := rest) hp (a := 0) (n := a) (by omega)
    rwa [Nat.zero_mul, List.drop_zero (l := L)] at this
theorem vec_same {el sz n n' : Nat} {v : Value} {xs xs' : List Value} (h1 : n = n') (h2 : xs = xs') : Ent (vec el sz v n xs) (vec el sz v n' xs') := by
  subst h1 h2
  exact Ent.refl _
theorem pgs_all {l : List Pg} : ∀ u ∈ pgs l, u.oneCell' = true := by
  intro u hu
  unfold pgs at hu
  obtain ⟨c, hc, hu⟩ := List.mem_flatten.1 hu
  obtain ⟨p, _, rfl⟩ := List.mem_map.1 hc
  exact Pg.one u hu
end Go.Mo
namespace Go.Mo
open Go Go.Sl
theorem wfold_tells {L : Int} {T : Nat} (hT : 1 ≤ T) : ∀ {ps : List Pg} {pt pt' : List (Option Pay)}, pt.length = T → wfold L T (some pt) ps = some pt' →
    pt'.length = T ∧ (∀ (i : Nat) c, pt[i]? = some (some c) → pt'[i]? = some (some c)) ∧ ∀ p ∈ ps, (p.lba = L ∧ p.total = T ∧ p.index < T) ∧ pt'[p.index.toNat]? = some (some p.pay)
  | [], pt, pt', hl, h => by
    obtain rfl := Option.some.inj (show some pt = some pt' from h)
    exact ⟨hl, fun _ _ h => h, fun p hp => by cases hp⟩
  | p :: ps, pt, pt', hl, h => by
    have h : wfold L T (wstep L T pt p) ps = some pt' := h
    by_cases hb : p.lba ≠ L ∨ p.total ≠ T ∨ (T : Int) ≤ p.index
    · rw [wstep_bad hb, wfold_none] at h; cases h
    have hi : p.index.toNat < pt.length := by rw [hl]; omega
    have hc : ∀ c, pt[p.index.toNat]? = some (some c) → c = p.pay := fun c hc => by
      by_cases g : c = p.pay
      · exact g
      · rw [wstep_dif hc g, wfold_none] at h; cases h
    rw [wstep_some hb hc] at h
    obtain ⟨k1, k2, k3⟩ := wfold_tells hT (by rw [List.length_set]; exact hl) h
    have hp : pt'[p.index.toNat]? = some (some p.pay) := k2 _ _ (by rw [List.getElem?_set, if_pos rfl, if_pos hi])
    refine ⟨k1, fun i c hic => ?_, fun q hq => ?_⟩
    · by_cases g : p.index.toNat = i
      · subst g
        rw [hc c hic]
        exact hp
      · exact k2 i c (by rw [List.getElem?_set, if_neg g]; exact hic)
    · rcases List.mem_cons.1 hq with rfl | hq
      · exact ⟨⟨Classical.not_not.1 fun g => hb (.inl g), Classical.not_not.1 fun g => hb (.inr (.inl g)), Int.not_le.1 fun g => hb (.inr (.inr g))⟩, hp⟩
      · exact k3 q hq
theorem marks_same {f : Nat → Pay} {T : Nat} {ps ps' : List Pg} (hm : ∀ q, q ∈ ps ↔ q ∈ ps') : marks f (List.replicate T none) ps = marks f (List.replicate T none) ps' := by
  apply List.ext_getElem?
  intro i
  by_cases hi : i < T
  · by_cases h : ∃ p ∈ ps, p.index.toNat = i
    · obtain ⟨p, hp, e⟩ := h
      rw [marks_in (by simpa using hi) (.inl ⟨p, hp, e⟩), marks_in (by simpa using hi) (.inl ⟨p, (hm p).1 hp, e⟩)]
    · rw [marks_out (fun p hp e => h ⟨p, hp, e⟩), marks_out (fun p hp e => h ⟨p, (hm p).2 hp, e⟩)]
  · rw [List.getElem?_eq_none (by rw [marks_length]; simpa using hi), List.getElem?_eq_none (by rw [marks_length]; simpa using hi)]
theorem whole_sub {ps ps' : List Pg} (h0 : ∀ p ∈ ps, 0 ≤ p.index) (hm : ∀ q, q ∈ ps ↔ q ∈ ps') {b : List UInt8} (h : wholeL ps = some b) : wholeL ps' = some b := by
  cases ps with
  | nil => cases h
  | cons p r =>
    cases ps' with
    | nil => exact absurd ((hm p).1 (List.mem_cons_self ..)) (by simp)
    | cons p' r' =>
      by_cases hL : 65536 < p.lba
      · rw [wholeL, if_pos hL] at h; cases h
      have hT : 1 ≤ pagesN p.lba.toNat := (pagesN_le (by omega)).1
      cases hw : wfold p.lba (pagesN p.lba.toNat) (some (List.replicate (pagesN p.lba.toNat) none)) (p :: r) with
      | none => rw [wholeL_fold hL hw] at h; cases h
      | some pt =>
        rw [wholeL_fold hL hw] at h
        obtain ⟨_, _, k3⟩ := wfold_tells hT (by simp) hw
        let f : Nat → Pay := fun i => ((pt[i]?).getD none).getD []
        have ht : ∀ q ∈ p :: r, Tell p.lba (pagesN p.lba.toNat) f q := fun q hq => by
          obtain ⟨⟨g1, g2, g3⟩, g4⟩ := k3 q hq
          exact ⟨g1, g2, h0 q hq, g3, by show q.pay = ((pt[q.index.toNat]?).getD none).getD []; rw [g4]; rfl⟩
        have ht' : ∀ q ∈ p' :: r', Tell p.lba (pagesN p.lba.toNat) f q := fun q hq => ht q ((hm q).2 hq)
        have e0 : ∀ (i : Nat) c, (List.replicate (pagesN p.lba.toNat) (none : Option Pay))[i]? = some (some c) → c = f i := fun i c hc => by
          rw [List.getElem?_replicate] at hc
          split at hc <;> cases hc
        have e1 := wfold_marks ht e0
        have e2 := wfold_marks ht' e0
        rw [hw] at e1
        have hp' : p'.lba = p.lba := (ht' p' (List.mem_cons_self ..)).lba
        rw [wholeL_fold (o := some pt) (by rw [hp']; exact hL) (by rw [hp', e2, ← marks_same hm, ← e1]), hp']
        exact h
theorem whole_same {ps ps' : List Pg} (h0 : ∀ p ∈ ps, 0 ≤ p.index) (hm : ∀ q, q ∈ ps ↔ q ∈ ps') : wholeL ps = wholeL ps' := by
  cases h : wholeL ps with
  | some b => exact (whole_sub h0 hm h).symm
  | none =>
    cases h' : wholeL ps' with
    | none => rfl
    | some b =>
      have := whole_sub (fun p hp => h0 p ((hm p).2 hp)) (fun q => (hm q).symm) h'
      rw [h] at this
      cases this
theorem joinR_same {ps ps' : List Pg} (h0 : ∀ p ∈ ps, 0 ≤ p.index) (hm : ∀ q, q ∈ ps ↔ q ∈ ps') (k : Ky) : joinR ps k = joinR ps' k := by
  unfold joinR
  refine whole_same (fun p hp => h0 p (List.mem_filter.1 hp).1) (fun q => ?_)
  rw [List.mem_filter, List.mem_filter, hm q]
theorem keys_same {ps ps' : List Pg} {ks ks' : List Ky} (hm : ∀ q, q ∈ ps ↔ q ∈ ps') (h : KeysOf ps ks) (h' : KeysOf ps' ks') : ks = ks' :=
  h.unique ⟨h'.up, fun k => by
    rw [h'.mem]
    constructor
    · rintro ⟨p, hp, g⟩; exact ⟨p, (hm p).2 hp, g⟩
    · rintro ⟨p, hp, g⟩; exact ⟨p, (hm p).1 hp, g⟩⟩
theorem joinKs_same {ps ps' : List Pg} {ks ks' : List Ky} (h0 : ∀ p ∈ ps, 0 ≤ p.index) (hm : ∀ q, q ∈ ps ↔ q ∈ ps') (h : KeysOf ps ks) (h' : KeysOf ps' ks') : joinKs ps ks = joinKs ps' ks' := by
  rw [← keys_same hm h h']
  unfold joinKs
  congr 1
  funext k
  rw [joinR_same h0 hm k]
end Go.Mo
namespace Go.Mo
open Go Go.Sl
def Z32 : Pay := List.replicate 32 0
def blkOf (o : Option Pay) : Pay := o.getD Z32
/-- The buffer. -/
def bufL (pt : List (Option Pay)) : List UInt8 := (pt.map blkOf).flatten
def haveL (pt : List (Option Pay)) : List Value := pt.map fun o => .bool o.isSome
def Full (pt : List (Option Pay)) : Prop := ∀ o ∈ pt, (blkOf o).length = 32
theorem full_none (n : Nat) : Full (List.replicate n none) := fun o ho => by rw [(List.mem_replicate.1 ho).2]; rfl
theorem full_set {pt : List (Option Pay)} (h : Full pt) {k : Nat} {c : Pay} (hc : c.length = 32) : Full (pt.set k (some c)) := fun o ho => by
  rcases List.mem_or_eq_of_mem_set ho with h1 | h1
  · exact h o h1
  · rw [h1]; exact hc
theorem full_get {pt : List (Option Pay)} (h : Full pt) {k : Nat} (hk : k < pt.length) : (blkOf pt[k]).length = 32 := h _ (List.getElem_mem hk)
theorem buf_length : ∀ {pt : List (Option Pay)}, Full pt → (bufL pt).length = pt.length * 32
  | [], _ => rfl
  | o :: pt, h => by
    show (blkOf o ++ bufL pt).length = _
    rw [List.length_append, h o (List.mem_cons_self ..), buf_length (fun x hx => h x (List.mem_cons_of_mem _ hx)), List.length_cons]
    omega
theorem buf_get : ∀ {pt : List (Option Pay)}, Full pt → ∀ {k j : Nat} (hk : k < pt.length), j < 32 → (bufL pt)[k * 32 + j]? = (blkOf pt[k])[j]?
  | o :: pt, h, 0, j, _, hj => by
    have ho := h o (List.mem_cons_self ..)
    show (blkOf o ++ bufL pt)[0 * 32 + j]? = _
    rw [List.getElem?_append_left (by omega)]
    simp
  | o :: pt, h, k + 1, j, hk, hj => by
    have ho := h o (List.mem_cons_self ..)
    show (blkOf o ++ bufL pt)[(k + 1) * 32 + j]? = _
    rw [List.getElem?_append_right (by omega), ho, show (k + 1) * 32 + j - 32 = k * 32 + j from by omega]
    exact buf_get (fun x hx => h x (List.mem_cons_of_mem _ hx)) (by simpa using hk) hj
theorem buf_set : ∀ {pt : List (Option Pay)}, Full pt → ∀ {k j : Nat} {x : UInt8} (hk : k < pt.length), j < 32 → (bufL pt).set (k * 32 + j) x = bufL (pt.set k (some ((blkOf pt[k]).set j x)))
  | o :: pt, h, 0, j, x, _, hj => by
    have ho := h o (List.mem_cons_self ..)
    show (blkOf o ++ bufL pt).set (0 * 32 + j) x = _
    rw [List.set_append_left _ _ (by omega), Nat.zero_mul, Nat.zero_add]
    rfl
  | o :: pt, h, k + 1, j, x, hk, hj => by
    have ho := h o (List.mem_cons_self ..)
    show (blkOf o ++ bufL pt).set ((k + 1) * 32 + j) x = _
    rw [List.set_append_right _ _ (by omega), ho, show (k + 1) * 32 + j - 32 = k * 32 + j from by omega, buf_set (fun x hx => h x (List.mem_cons_of_mem _ hx)) (by simpa using hk) hj]
    rfl
theorem have_set {pt : List (Option Pay)} {k : Nat} {c : Pay} : (haveL pt).set k (.bool true) = haveL (pt.set k (some c)) := by
  unfold haveL
  rw [List.map_set]
  rfl
theorem have_get {pt : List (Option Pay)} {k : Nat} (hk : k < pt.length) : (haveL pt)[k]? = some (.bool pt[k].isSome) := by
  unfold haveL
  rw [List.getElem?_map, List.getElem?_eq_getElem hk]
  rfl
theorem have_none (n : Nat) : haveL (List.replicate n none) = List.replicate n (.bool false) := by
  unfold haveL
  rw [List.map_replicate]
  rfl
theorem buf_none (n : Nat) : bufL (List.replicate n none) = List.replicate (n * 32) 0 := by
  unfold bufL
  rw [List.map_replicate]
  induction n with
  | zero => rfl
  | succ n ih =>
    rw [List.replicate_succ, List.flatten_cons, ih, show (n + 1) * 32 = 32 + n * 32 from by omega, ← List.replicate_append_replicate]
    rfl
/-- A block of which so many bytes are new. -/
def mixJ (old pay : Pay) (j : Nat) : Pay := pay.take j ++ old.drop j
theorem mixJ_zero (old pay : Pay) : mixJ old pay 0 = old := by simp [mixJ]
theorem mixJ_all {old pay : Pay} (ho : old.length = 32) (hp : pay.length = 32) : mixJ old pay 32 = pay := by
  unfold mixJ
  rw [List.take_of_length_le (by omega), List.drop_eq_nil_of_le (by omega), List.append_nil]
theorem mixJ_length {old pay : Pay} {j : Nat} (ho : old.length = 32) (hp : pay.length = 32) (hj : j ≤ 32) : (mixJ old pay j).length = 32 := by
  unfold mixJ
  rw [List.length_append, List.length_take, List.length_drop]
  omega
theorem mixJ_get {old pay : Pay} {j : Nat} (ho : old.length = 32) (hp : pay.length = 32) (hj : j < 32) : (mixJ old pay j)[j]? = old[j]? := by
  unfold mixJ
  rw [List.getElem?_append_right (by rw [List.length_take]; omega), List.length_take, List.getElem?_drop]
  congr 1
  omega
theorem mixJ_step {old pay : Pay} {j : Nat} (ho : old.length = 32) (hp : pay.length = 32) (hj : j < 32) : (mixJ old pay j).set j (pay[j]'(by omega)) = mixJ old pay (j + 1) := by
  unfold mixJ
  rw [List.set_append_right _ _ (by rw [List.length_take]; omega), List.length_take, show j - min j pay.length = 0 from by omega, List.drop_eq_getElem_cons (by omega : j < old.length), List.set_cons_zero, List.take_succ_eq_append_getElem (by omega : j < pay.length), List.append_assoc]
  rfl
theorem mixJ_same {old pay : Pay} {j : Nat} (h : old.take j = pay.take j) : mixJ old pay j = old := by
  unfold mixJ
  rw [← h, List.take_append_drop]
/-- The fold with a page's own numbers. -/
def wholeW (L : Int) (F : List Pg) : Option (List UInt8) := if 65536 < L then none else (wfold L (pagesN L.toNat) (some (List.replicate (pagesN L.toNat) none)) F).bind (wholeT L)
theorem wholeW_eq {p : Pg} {F : List Pg} (hp : p ∈ F) : wholeL F = wholeW p.lba F := by
  cases F with
  | nil => cases hp
  | cons f r =>
    by_cases he : f.lba = p.lba
    · unfold wholeW
      rw [← he]
      by_cases hL : 65536 < f.lba
      · rw [wholeL, if_pos hL, if_pos hL]
      · rw [if_neg hL, wholeL_fold hL rfl]
    · have h1 : wholeL (f :: r) = none := by
        by_cases hL : 65536 < f.lba
        · rw [wholeL, if_pos hL]
        · have hT : 1 ≤ pagesN f.lba.toNat := (pagesN_le (by omega)).1
          rw [wholeL_fold hL rfl]
          cases hw : wfold f.lba (pagesN f.lba.toNat) (some (List.replicate (pagesN f.lba.toNat) none)) (f :: r) with
          | none => rfl
          | some pt =>
            obtain ⟨_, _, k3⟩ := wfold_tells hT (by simp) hw
            exact absurd (k3 p hp).1.1.symm he
      have h2 : wholeW p.lba (f :: r) = none := by
        unfold wholeW
        by_cases hL : 65536 < p.lba
        · rw [if_pos hL]
        · have hT : 1 ≤ pagesN p.lba.toNat := (pagesN_le (by omega)).1
          rw [if_neg hL]
          cases hw : wfold p.lba (pagesN p.lba.toNat) (some (List.replicate (pagesN p.lba.toNat) none)) (f :: r) with
          | none => rfl
          | some pt =>
            obtain ⟨_, _, k3⟩ := wfold_tells hT (by simp) hw
            exact absurd (k3 f (List.mem_cons_self ..)).1.1 he
      rw [h1, h2]
theorem wholeW_total {p : Pg} {F : List Pg} (hp : p ∈ F) (h : ¬ 65536 < p.lba) (ht : p.total ≠ pagesN p.lba.toNat) : wholeW p.lba F = none := by
  unfold wholeW
  have hT : 1 ≤ pagesN p.lba.toNat := (pagesN_le (by omega)).1
  rw [if_neg h]
  cases hw : wfold p.lba (pagesN p.lba.toNat) (some (List.replicate (pagesN p.lba.toNat) none)) F with
  | none => rfl
  | some pt =>
    obtain ⟨_, _, k3⟩ := wfold_tells hT (by simp) hw
    exact absurd (k3 p hp).1.2.1 ht
theorem allP_buf : ∀ {pt : List (Option Pay)}, (∀ k (hk : k < pt.length), pt[k].isSome = true) → allP pt = some (bufL pt)
  | [], _ => rfl
  | o :: pt, h => by
    have h0 : o.isSome = true := h 0 (by simp)
    obtain ⟨c, rfl⟩ := Option.isSome_iff_exists.1 h0
    rw [allP, allP_buf (fun k hk => h (k + 1) (by simpa using hk))]
    rfl
/-- The pages of a key among those that are behind. -/
def selF (p : Pg) (l : List Pg) : List Pg := l.filter fun q => decide (q.valid ∧ q.key = p.key)
theorem selF_yes {p : Pg} {l : List Pg} {i : Nat} (hi : i < l.length) (h : l[i].valid ∧ l[i].key = p.key) : selF p (l.take (i + 1)) = selF p (l.take i) ++ [l[i]] := by
  unfold selF
  rw [List.take_succ_eq_append_getElem hi, List.filter_append]
  simp [h]
theorem selF_no {p : Pg} {l : List Pg} {i : Nat} (hi : i < l.length) (h : ¬ (l[i].valid ∧ l[i].key = p.key)) : selF p (l.take (i + 1)) = selF p (l.take i) := by
  unfold selF
  rw [List.take_succ_eq_append_getElem hi, List.filter_append]
  simp [h]
theorem wfold_push {L : Int} {T : Nat} {st : Option (List (Option Pay))} {F : List Pg} {q : Pg} : wfold L T st (F ++ [q]) = (wfold L T st F).bind fun pt => wstep L T pt q := by
  unfold wfold
  rw [List.foldl_append]
  rfl
theorem wfold_ext {L : Int} {T : Nat} {st : Option (List (Option Pay))} {F G : List Pg} (h : wfold L T st F = none) : wfold L T st (F ++ G) = none := by
  unfold wfold at *
  rw [List.foldl_append, h]
  exact wfold_none L T G
/-- A page that doesn't fit: none. -/
theorem wholeW_bad {L : Int} {p : Pg} {l : List Pg} {i : Nat} (hi : i < l.length) (hL : ¬ 65536 < L) (h : l[i].valid ∧ l[i].key = p.key) {pt : List (Option Pay)} (hw : wfold L (pagesN L.toNat) (some (List.replicate (pagesN L.toNat) none)) (selF p (l.take i)) = some pt)
    (hs : wstep L (pagesN L.toNat) pt l[i] = none) : wholeW L (selF p l) = none := by
  have e : selF p l = selF p (l.take (i + 1)) ++ selF p (l.drop (i + 1)) := by
    unfold selF
    rw [← List.filter_append, List.take_append_drop]
  unfold wholeW
  rw [if_neg hL, e, wfold_ext (by rw [selF_yes hi h, wfold_push, hw]; exact hs)]
  rfl
end Go.Mo
namespace Go.Mo
open Go Go.Sl
theorem joinR_sel {ps : List Pg} {p : Pg} (hp : p ∈ ps) (hv : p.valid) : joinR ps p.key = wholeW p.lba (selF p ps) := by
  unfold joinR
  exact wholeW_eq (F := selF p ps) (List.mem_filter.2 ⟨hp, decide_eq_true ⟨hv, rfl⟩⟩)
/-- What is owned behind it. -/
def wOwn (o : Option (List UInt8)) (bv : Value) : Assn := match o with
  | none => sep []
  | some bs => vec 5 1 bv bs.length (bs.map u8V)
def RWholeQ (A : Assn) (ps : List Pg) (p : Pg) : Value → List Assn → Prop := fun w Ps =>
  ∃ bv, w = .tuple #[.agg (strm p.kind p.epoch p.group bv).toArray, .bool (joinR ps p.key).isSome] ∧ bv.oneCell' = true ∧ (∃ q n c, bv = .slice q n c) ∧ Ps = [wOwn (joinR ps p.key) bv, A]
theorem RWholeQ_none {A : Assn} {ps : List Pg} {p : Pg} (hp : p ∈ ps) (hv : p.valid) (h : wholeW p.lba (selF p ps) = none) : RWholeQ A ps p (.tuple #[.agg (strm p.kind p.epoch p.group (.slice none 0 0)).toArray, .bool false]) [sep [], A] := by
  unfold RWholeQ
  rw [joinR_sel hp hv, h]
  exact ⟨_, rfl, rfl, ⟨_, _, _, rfl⟩, rfl⟩
theorem RWholeQ_some {A : Assn} {ps : List Pg} {p : Pg} {q : Option Addr} {n c : Nat} {bs : List UInt8} (hp : p ∈ ps) (hv : p.valid) (h : wholeW p.lba (selF p ps) = some bs) :
    RWholeQ A ps p (.tuple #[.agg (strm p.kind p.epoch p.group (.slice q n c)).toArray, .bool true]) [vec 5 1 (.slice q n c) bs.length (bs.map u8V), A] := by
  unfold RWholeQ
  rw [joinR_sel hp hv, h]
  exact ⟨_, rfl, rfl, ⟨_, _, _, rfl⟩, rfl⟩
theorem wholeW_big {L : Int} {F : List Pg} (h : 65536 < L) : wholeW L F = none := if_pos h
theorem wholeW_end {L : Int} {F : List Pg} {pt : List (Option Pay)} (h : ¬ 65536 < L) (hw : wfold L (pagesN L.toNat) (some (List.replicate (pagesN L.toNat) none)) F = some pt) : wholeW L F = wholeT L pt := by
  unfold wholeW
  rw [if_neg h, hw]
  rfl
theorem zeros_one (n : Nat) (v : Value) : zeros n [v] = List.replicate n v := by
  unfold zeros
  induction n with
  | zero => rfl
  | succ n ih => rw [List.replicate_succ, List.flatten_cons, ih]; rfl
theorem have_zeros (n : Nat) : zeros n [Value.bool false] = haveL (List.replicate n none) := by rw [zeros_one, have_none]
theorem buf_zeros (n : Nat) : zeros (n * 32) [Value.int .u8 0] = (bufL (List.replicate n none)).map u8V := by
  rw [zeros_one, buf_none, List.map_replicate]
  rfl
theorem buf_same : ∀ {pt : List (Option Pay)} {k : Nat} (hk : k < pt.length), bufL (pt.set k (some (blkOf pt[k]))) = bufL pt
  | o :: pt, 0, _ => rfl
  | o :: pt, k + 1, hk => by
    have hk2 : k < pt.length := by simpa using hk
    show blkOf o ++ bufL (pt.set k (some (blkOf (pt[k]'hk2)))) = blkOf o ++ bufL pt
    rw [buf_same hk2]
/-- The buffer while a page is written. -/
def bufJ (pt : List (Option Pay)) (k : Nat) (pay : Pay) (j : Nat) : List UInt8 := bufL (pt.set k (some (mixJ (blkOf (pt[k]?.getD none)) pay j)))
theorem bufJ_zero {pt : List (Option Pay)} {k : Nat} {pay : Pay} (hk : k < pt.length) : bufJ pt k pay 0 = bufL pt := by
  unfold bufJ
  rw [mixJ_zero, List.getElem?_eq_getElem hk]
  exact buf_same hk
theorem bufJ_full {pt : List (Option Pay)} {k : Nat} {pay : Pay} {j : Nat} (hf : Full pt) (hk : k < pt.length) (hp : pay.length = 32) (hj : j ≤ 32) : Full (pt.set k (some (mixJ (blkOf (pt[k]?.getD none)) pay j))) := by
  rw [List.getElem?_eq_getElem hk]
  exact full_set hf (mixJ_length (full_get hf hk) hp hj)
theorem bufJ_length {pt : List (Option Pay)} {k : Nat} {pay : Pay} {j : Nat} (hf : Full pt) (hk : k < pt.length) (hp : pay.length = 32) (hj : j ≤ 32) : (bufJ pt k pay j).length = pt.length * 32 := by
  unfold bufJ
  rw [buf_length (bufJ_full hf hk hp hj), List.length_set]
theorem bufJ_all {pt : List (Option Pay)} {k : Nat} {pay : Pay} (hf : Full pt) (hk : k < pt.length) (hp : pay.length = 32) : bufJ pt k pay 32 = bufL (pt.set k (some pay)) := by
  unfold bufJ
  rw [List.getElem?_eq_getElem hk, Option.getD_some, mixJ_all (full_get hf hk) hp]
theorem bufJ_get {pt : List (Option Pay)} {k j : Nat} {pay : Pay} (hf : Full pt) (hk : k < pt.length) (hp : pay.length = 32) (hj : j < 32) : (bufJ pt k pay j)[k * 32 + j]? = (blkOf pt[k])[j]? := by
  unfold bufJ
  rw [buf_get (bufJ_full hf hk hp (by omega)) (by rw [List.length_set]; exact hk) hj, List.getElem_set_self, List.getElem?_eq_getElem hk]
  exact mixJ_get (full_get hf hk) hp hj
theorem bufJ_step {pt : List (Option Pay)} {k j : Nat} {pay : Pay} (hf : Full pt) (hk : k < pt.length) (hp : pay.length = 32) (hj : j < 32) : (bufJ pt k pay j).set (k * 32 + j) (pay[j]'(by omega)) = bufJ pt k pay (j + 1) := by
  unfold bufJ
  rw [buf_set (bufJ_full hf hk hp (by omega)) (by rw [List.length_set]; exact hk) hj, List.getElem_set_self, List.set_set, List.getElem?_eq_getElem hk]
  congr 3
  exact mixJ_step (full_get hf hk) hp hj
/-- So far what is there agrees with the page. -/
def Agree (o : Option Pay) (pay : Pay) (j : Nat) : Prop := ∀ c, o = some c → c.take j = pay.take j
theorem agree_step {o : Option Pay} {pay : Pay} {j : Nat} (h : Agree o pay j) (hj : ∀ c, o = some c → c[j]? = pay[j]?) : Agree o pay (j + 1) := fun c hc => by
  rw [List.take_add_one, List.take_add_one, h c hc, hj c hc]
theorem agree_all {o : Option Pay} {pay : Pay} (h : Agree o pay 32) (ho : (blkOf o).length = 32) (hp : pay.length = 32) : ∀ c, o = some c → c = pay := fun c hc => by
  have h1 := h c hc
  subst hc
  have ho : c.length = 32 := ho
  rwa [List.take_of_length_le (by omega), List.take_of_length_le (by omega)] at h1
theorem bufJ_store {pt : List (Option Pay)} {k j : Nat} {pay : Pay} (hf : Full pt) (hk : k < pt.length) (hp : pay.length = 32) (hj : j < 32) (hjp : j < pay.length) : ((bufJ pt k pay j).map u8V).set (0 + (k * 32 + j)) (u8V pay[j]) = (bufJ pt k pay (j + 1)).map u8V := by
  rw [Nat.zero_add, ← List.map_set, bufJ_step hf hk hp hj]
theorem bufJ_at {pt : List (Option Pay)} {k j : Nat} {pay : Pay} (hf : Full pt) (hk : k < pt.length) (hp : pay.length = 32) (hj : j < 32) : ((bufJ pt k pay j).map u8V)[0 + (k * 32 + j)]? = some (u8V ((blkOf pt[k])[j]'(by rw [full_get hf hk]; exact hj))) := by
  rw [Nat.zero_add, List.getElem?_map, bufJ_get hf hk hp hj, List.getElem?_eq_getElem (by rw [full_get hf hk]; exact hj)]
  rfl
theorem have_store {pt : List (Option Pay)} {k : Nat} {c : Pay} : (haveL pt).set (0 + k) (.bool true) = haveL (pt.set k (some c)) := by
  rw [Nat.zero_add, have_set]
theorem blk_ne {pt : List (Option Pay)} {k j : Nat} {pay c : Pay} (hf : Full pt) (hk : k < pt.length) (hj : j < 32) (hjp : j < pay.length) (hc : pt[k] = some c) (hne : (((blkOf pt[k])[j]'(by rw [full_get hf hk]; exact hj)).toNat : Int) ≠ ((pay[j]).toNat : Int)) : ¬ c = pay := fun e => by
  have e1 : (blkOf pt[k])[j]? = pay[j]? := by rw [hc, ← e]; rfl
  rw [List.getElem?_eq_getElem (by rw [full_get hf hk]; exact hj), List.getElem?_eq_getElem hjp] at e1
  exact hne (by rw [Option.some.inj e1])
theorem agree_eq {pt : List (Option Pay)} {k j : Nat} {pay : Pay} (hf : Full pt) (hk : k < pt.length) (hj : j < 32) (hjp : j < pay.length) (h : Agree (pt[k]?.getD none) pay j) (he : (((blkOf pt[k])[j]'(by rw [full_get hf hk]; exact hj)).toNat : Int) = ((pay[j]).toNat : Int)) : Agree (pt[k]?.getD none) pay (j + 1) :=
  agree_step h fun c hc => by
    rw [List.getElem?_eq_getElem hk, Option.getD_some] at hc
    have e1 : (blkOf pt[k])[j]'(by rw [full_get hf hk]; exact hj) = pay[j] := UInt8.toNat_inj.1 (by omega)
    have e2 : (blkOf pt[k])[j]? = pay[j]? := by rw [List.getElem?_eq_getElem (by rw [full_get hf hk]; exact hj), List.getElem?_eq_getElem hjp, e1]
    rw [← e2, hc]
    rfl
theorem agree_none {pt : List (Option Pay)} {k j : Nat} {pay : Pay} (hk : k < pt.length) (h : pt[k].isSome = false) : Agree (pt[k]?.getD none) pay j := fun c hc => by
  rw [List.getElem?_eq_getElem hk, Option.getD_some] at hc
  rw [hc] at h
  cases h
theorem agree_end {pt : List (Option Pay)} {k : Nat} {pay : Pay} (hf : Full pt) (hk : k < pt.length) (hp : pay.length = 32) (h : Agree (pt[k]?.getD none) pay 32) : ∀ c, pt[k]? = some (some c) → c = pay := fun c hc => by
  rw [List.getElem?_eq_getElem hk] at h hc
  exact agree_all h (full_get hf hk) hp c (Option.some.inj hc)
end Go.Mo
namespace Go.Mo
open Go Go.Sl
/-- Of each key one page, in order. -/
structure Firsts (l fs : List Pg) : Prop where
  up : fs.Pairwise fun a b => ltK a.key b.key
  sub : ∀ f ∈ fs, f ∈ l ∧ f.valid
  all : ∀ q ∈ l, q.valid → ∃ f ∈ fs, f.key = q.key
theorem firsts_nil : Firsts [] [] := ⟨.nil, (fun f hf => by cases hf), (fun q hq => by cases hq)⟩
theorem firsts_old {l fs : List Pg} {q : Pg} (h : Firsts l fs) (hq : q.valid → ∃ f ∈ fs, f.key = q.key) : Firsts (l ++ [q]) fs :=
  ⟨h.up, fun f hf => ⟨List.mem_append_left _ (h.sub f hf).1, (h.sub f hf).2⟩, fun x hx hv => by
    rcases List.mem_append.1 hx with h1 | h1
    · exact h.all x h1 hv
    · rw [List.mem_singleton.1 h1] at hv ⊢
      exact hq hv⟩
theorem firsts_skip {l fs : List Pg} {i : Nat} (hi : i < l.length) (h : Firsts (l.take i) fs) (hv : ¬ l[i].valid) : Firsts (l.take (i + 1)) fs := by
  rw [List.take_succ_eq_append_getElem hi]
  exact firsts_old h fun g => absurd g hv
theorem firsts_has {l fs : List Pg} {i k : Nat} (hi : i < l.length) (h : Firsts (l.take i) fs) (hk : k < fs.length) (h1 : ¬ ltK fs[k].key l[i].key) (h2 : ¬ ltK l[i].key fs[k].key) : Firsts (l.take (i + 1)) fs := by
  rw [List.take_succ_eq_append_getElem hi]
  exact firsts_old h fun _ => ⟨fs[k], List.getElem_mem hk, ltK_total h1 h2⟩
theorem firsts_new {l fs : List Pg} {i k : Nat} (hi : i < l.length) (h : Firsts (l.take i) fs) (hv : l[i].valid) (hk : k ≤ fs.length) (h1 : ∀ j (hj : j < fs.length), j < k → ltK fs[j].key l[i].key)
    (h2 : ∀ hk : k < fs.length, ltK l[i].key fs[k].key) : Firsts (l.take (i + 1)) ((fs.take k ++ [l[i]]) ++ fs.drop k) := by
  have hT : ∀ a ∈ fs.take k, ltK a.key l[i].key := fun a ha => by
    obtain ⟨j, hj, rfl⟩ := List.getElem_of_mem ha
    rw [List.length_take] at hj
    rw [List.getElem_take]
    exact h1 j (by omega) (by omega)
  have hD : ∀ b ∈ fs.drop k, ltK l[i].key b.key := fun b hb => by
    obtain ⟨j, hj, rfl⟩ := List.getElem_of_mem hb
    rw [List.length_drop] at hj
    rw [List.getElem_drop]
    have h3 := h2 (by omega)
    by_cases hj0 : j = 0
    · subst hj0; exact h3
    · exact ltK_trans h3 ((List.pairwise_iff_getElem.1 h.up) k (k + j) (by omega) (by omega) (by omega))
  rw [List.take_succ_eq_append_getElem hi]
  refine ⟨?_, fun f hf => ?_, fun x hx hxv => ?_⟩
  · refine List.pairwise_append.2 ⟨List.pairwise_append.2 ⟨h.up.take, List.pairwise_singleton _ _, fun a ha b hb => by rw [List.mem_singleton.1 hb]; exact hT a ha⟩, h.up.drop, fun a ha b hb => ?_⟩
    rcases List.mem_append.1 ha with h3 | h3
    · exact ltK_trans (hT a h3) (hD b hb)
    · rw [List.mem_singleton.1 h3]; exact hD b hb
  · show f ∈ l.take i ++ [l[i]] ∧ f.valid
    rcases List.mem_append.1 hf with h3 | h3
    · rcases List.mem_append.1 h3 with h4 | h4
      · have := h.sub f (List.mem_of_mem_take h4)
        exact ⟨List.mem_append_left _ this.1, this.2⟩
      · rw [List.mem_singleton.1 h4]; exact ⟨List.mem_append_right _ (List.mem_singleton.2 rfl), hv⟩
    · have := h.sub f (List.mem_of_mem_drop h3)
      exact ⟨List.mem_append_left _ this.1, this.2⟩
  · rcases List.mem_append.1 hx with h3 | h3
    · obtain ⟨f, hf, e⟩ := h.all x h3 hxv
      refine ⟨f, ?_, e⟩
      rw [← List.take_append_drop k fs] at hf
      rcases List.mem_append.1 hf with h4 | h4
      · exact List.mem_append_left _ (List.mem_append_left _ h4)
      · exact List.mem_append_right _ h4
    · rw [List.mem_singleton.1 h3]
      exact ⟨l[i], by simp, rfl⟩
theorem firsts_keys {l fs : List Pg} (h : Firsts l fs) : KeysOf l (fs.map Pg.key) := by
  refine ⟨List.pairwise_map.2 h.up, fun k => ?_⟩
  rw [List.mem_map]
  constructor
  · rintro ⟨f, hf, rfl⟩; exact ⟨f, (h.sub f hf).1, (h.sub f hf).2, rfl⟩
  · rintro ⟨p, hp, hv, rfl⟩
    exact h.all p hp hv
theorem firsts_at {l fs : List Pg} (h : Firsts l fs) {m : Nat} (hm : m < fs.length) : fs[m] ∈ l ∧ fs[m].valid := h.sub _ (List.getElem_mem hm)
/-- What the reference's Join gives. -/
def RJoinQ (A : Assn) (ps : List Pg) : Value → List Assn → Prop := fun v Ps =>
  ∃ (ks : List Ky) (rs : List Sm), KeysOf ps ks ∧ rs.map (fun s => (s.key, s.bytes)) = joinKs ps ks ∧ v.oneCell' = true ∧ (∀ s ∈ rs, s.v.oneCell' = true) ∧ Ps = [vec 57 4 v rs.length ((rs.map Sm.cells).flatten), sep (rs.map Sm.own), A]
theorem rjoin_push {ps fs : List Pg} {rs : List Sm} {m : Nat} {v : Value} {bs : List UInt8} (hm : m < fs.length) (h : rs.map (fun s => (s.key, s.bytes)) = joinKs ps ((fs.map Pg.key).take m)) (hj : joinR ps fs[m].key = some bs) :
    (rs ++ [Sm.mk fs[m].key v bs]).map (fun s => (s.key, s.bytes)) = joinKs ps ((fs.map Pg.key).take (m + 1)) := by
  have hm2 : m < (fs.map Pg.key).length := by rw [List.length_map]; exact hm
  rw [joinKs_take hm2, List.getElem_map, hj, List.map_append, h]
  rfl
theorem rjoin_skip {ps fs : List Pg} {rs : List Sm} {m : Nat} (hm : m < fs.length) (h : rs.map (fun s => (s.key, s.bytes)) = joinKs ps ((fs.map Pg.key).take m)) (hj : joinR ps fs[m].key = none) :
    rs.map (fun s => (s.key, s.bytes)) = joinKs ps ((fs.map Pg.key).take (m + 1)) := by
  have hm2 : m < (fs.map Pg.key).length := by rw [List.length_map]; exact hm
  rw [joinKs_take hm2, List.getElem_map, hj, h, List.append_nil]
theorem pgs_at {l : List Pg} (h : ∀ p ∈ l, p.fit) {i j : Nat} {v : Value} (hi : i < l.length) (hj : j < 39) (hv : l[i].cells[j]? = some v) : (pgs l)[i * 39 + j]? = some v := by
  have h1 := pgs_get (fun p hp => (h p hp).ok.pay) hi
  rw [← h1, List.getElem?_take, if_pos hj, List.getElem?_drop] at hv
  exact hv
theorem firsts_pgs {fs : List Pg} {q : Pg} {k : Nat} (hk : k ≤ fs.length) : (([] ++ pgs ((fs.drop 0).take (k - 0))) ++ q.cells) ++ pgs ((fs.drop k).take (fs.length - k)) = pgs ((fs.take k ++ [q]) ++ fs.drop k) := by
  rw [List.nil_append, List.drop_zero, Nat.sub_zero, List.take_of_length_le (i := fs.length - k) (by rw [List.length_drop]; exact Nat.le_refl _), pgs_append, pgs_append]
  congr 2
  simp [pgs]
theorem firsts_len {fs : List Pg} {q : Pg} {k : Nat} (hk : k ≤ fs.length) : ((fs.take k ++ [q]) ++ fs.drop k).length = fs.length + 1 := by
  rw [List.length_append, List.length_append, List.length_take, List.length_drop, List.length_singleton]
  omega
end Go.Mo
