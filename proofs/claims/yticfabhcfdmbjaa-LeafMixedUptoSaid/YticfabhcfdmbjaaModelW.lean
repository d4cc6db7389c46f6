/-
  What leaf.Join answers of two streams' pages in any order, and with one page less, in plain words: no program in sight.
-/
import Derived.Test.YticfabhcfdmbjaaModelJ
set_option linter.unusedVariables false
set_option linter.unusedSimpArgs false
namespace Go.Mo
open Go Go.Sl
theorem mem_drop' {α : Type} {l : List α} {a : Nat} {q : α} : q ∈ l.drop a ↔ ∃ i, a ≤ i ∧ l[i]? = some q := by
  rw [List.mem_iff_getElem?]
  constructor
  · rintro ⟨i, hi⟩
    rw [List.getElem?_drop] at hi
    exact ⟨a + i, by omega, hi⟩
  · rintro ⟨i, h1, h2⟩
    exact ⟨i - a, by rw [List.getElem?_drop, show a + (i - a) = i from by omega]; exact h2⟩
theorem mem_take' {α : Type} {l : List α} {a : Nat} {q : α} : q ∈ l.take a ↔ ∃ i, i < a ∧ l[i]? = some q := by
  rw [List.mem_iff_getElem?]
  constructor
  · rintro ⟨i, hi⟩
    rw [List.getElem?_take] at hi
    split at hi
    · rename_i h; exact ⟨i, h, hi⟩
    · cases hi
  · rintro ⟨i, h1, h2⟩
    exact ⟨i, by rw [List.getElem?_take, if_pos h1]; exact h2⟩
theorem cutL_get {kind epoch group : Int} {b : List UInt8} {n i : Nat} {q : Pg} : (cutL kind epoch group b n)[i]? = some q ↔ i < n ∧ q = pageOf kind epoch group b i := by
  unfold cutL
  rw [List.getElem?_map]
  by_cases h : i < n
  · rw [List.getElem?_range h]
    simp only [Option.map_some, Option.some.injEq]
    exact ⟨fun e => ⟨h, e.symm⟩, fun e => e.2.symm⟩
  · rw [List.getElem?_eq_none (by simpa using h)]
    simp [h]
def k5 : Ky := ⟨3, 3, 5⟩
def k6 : Ky := ⟨3, 3, 6⟩
theorem key_page {kind epoch group : Int} {b : List UInt8} {i : Nat} : (pageOf kind epoch group b i).key = ⟨kind, epoch, group⟩ := rfl
/-- Two streams' pages: both streams. -/
theorem join_two {l m : List UInt8} (hl : l.length ≤ 65536) (hm : m.length ≤ 65536) {ps : List Pg} {ks : List Ky} (h : KeysOf ps ks)
    (hin : ∀ q, q ∈ ps ↔ (∃ i < pagesN l.length, q = pageOf 3 3 5 l i) ∨ (∃ i < pagesN m.length, q = pageOf 3 3 6 m i)) : joinKs ps ks = [(k5, l), (k6, m)] := by
  have hp1 := (pagesN_le hl).1
  have hp2 := (pagesN_le hm).1
  have hv : ∀ q ∈ ps, q.key = k5 ∨ q.key = k6 := fun q hq => by
    rcases (hin q).1 hq with ⟨i, _, rfl⟩ | ⟨i, _, rfl⟩
    · exact .inl rfl
    · exact .inr rfl
  rw [keys_two (k := k5) (l := k6) h (by decide) (fun q hq _ => hv q hq) ⟨_, (hin _).2 (.inl ⟨0, by omega, rfl⟩), .inr rfl, rfl⟩ ⟨_, (hin _).2 (.inr ⟨0, by omega, rfl⟩), .inr rfl, rfl⟩]
  have e1 : joinR ps k5 = some l := joinR_all (.inr rfl) hl (fun q hq _ hk => by
    rcases (hin q).1 hq with h | ⟨i, _, rfl⟩
    · exact h
    · exact absurd (show k6 = k5 from hk) (by decide)) (fun i hi => (hin _).2 (.inl ⟨i, hi, rfl⟩))
  have e2 : joinR ps k6 = some m := joinR_all (.inr rfl) hm (fun q hq _ hk => by
    rcases (hin q).1 hq with ⟨i, _, rfl⟩ | h
    · exact absurd (show k5 = k6 from hk) (by decide)
    · exact h) (fun i hi => (hin _).2 (.inr ⟨i, hi, rfl⟩))
  simp [joinKs, e1, e2]
/-- One page less: the other stream alone. -/
theorem join_less {l m : List UInt8} (hl : l.length ≤ 65536) (hm : m.length ≤ 65536) {ps : List Pg} {ks : List Ky} {d : Nat} (hd : d < pagesN l.length) (h : KeysOf ps ks)
    (hin : ∀ q, q ∈ ps ↔ (∃ i < pagesN l.length, i ≠ d ∧ q = pageOf 3 3 5 l i) ∨ (∃ i < pagesN m.length, q = pageOf 3 3 6 m i)) : joinKs ps ks = [(k6, m)] := by
  have hp2 := (pagesN_le hm).1
  have h6 : ∃ q ∈ ps, q.valid ∧ q.key = k6 := ⟨_, (hin _).2 (.inr ⟨0, by omega, rfl⟩), .inr rfl, rfl⟩
  have hv : ∀ q ∈ ps, q.key = k5 ∨ q.key = k6 := fun q hq => by
    rcases (hin q).1 hq with ⟨i, _, _, rfl⟩ | ⟨i, _, rfl⟩
    · exact .inl rfl
    · exact .inr rfl
  have e1 : joinR ps k5 = none := joinR_less (b := l) hl (fun q hq _ hk => by
    rcases (hin q).1 hq with ⟨i, hi, _, rfl⟩ | ⟨i, _, rfl⟩
    · exact ⟨i, hi, rfl⟩
    · exact absurd (show k6 = k5 from hk) (by decide)) hd (fun hq => by
    rcases (hin _).1 hq with ⟨i, _, hne, he⟩ | ⟨i, _, he⟩
    · have := congrArg (fun p => p.index) he
      have h2 : (d : Int) = (i : Int) := this
      omega
    · have := congrArg (fun p => p.group) he
      have h2 : (5 : Int) = 6 := this
      omega)
  have e2 : joinR ps k6 = some m := joinR_all (.inr rfl) hm (fun q hq _ hk => by
    rcases (hin q).1 hq with ⟨i, _, _, rfl⟩ | h
    · exact absurd (show k5 = k6 from hk) (by decide)
    · exact h) (fun i hi => (hin _).2 (.inr ⟨i, hi, rfl⟩))
  by_cases h5 : ∃ q ∈ ps, q.valid ∧ q.key = k5
  · rw [keys_two (k := k5) (l := k6) h (by decide) (fun q hq _ => hv q hq) h5 h6]
    simp [joinKs, e1, e2]
  · rw [keys_one (k := k6) h (fun q hq hqv => by
      rcases hv q hq with g | g
      · exact absurd ⟨q, hq, hqv, g⟩ h5
      · exact g) h6]
    simp [joinKs, e2]
/-- The pages as LeafWhole mixes them. -/
def mixP (L O : List Pg) (k : Nat) : List Pg := O.drop 1 ++ L.drop k ++ L.take (k + 1) ++ O.take 1
theorem mem_mix {L O : List Pg} {k : Nat} {q : Pg} : q ∈ mixP L O k ↔ q ∈ L ∨ q ∈ O := by
  unfold mixP
  simp only [List.mem_append]
  constructor
  · rintro (((h | h) | h) | h)
    · exact .inr (List.mem_of_mem_drop h)
    · exact .inl (List.mem_of_mem_drop h)
    · exact .inl (List.mem_of_mem_take h)
    · exact .inr (List.mem_of_mem_take h)
  · rintro (h | h)
    · obtain ⟨i, hi⟩ := List.mem_iff_getElem?.1 h
      by_cases g : k ≤ i
      · exact .inl (.inl (.inr (mem_drop'.2 ⟨i, g, hi⟩)))
      · exact .inl (.inr (mem_take'.2 ⟨i, by omega, hi⟩))
    · obtain ⟨i, hi⟩ := List.mem_iff_getElem?.1 h
      by_cases g : 1 ≤ i
      · exact .inl (.inl (.inl (mem_drop'.2 ⟨i, g, hi⟩)))
      · exact .inr (mem_take'.2 ⟨i, by omega, hi⟩)
def lessP (L O : List Pg) (d : Nat) : List Pg := L.take d ++ L.drop (d + 1) ++ O
theorem join_mix {l m : List UInt8} (hl : l.length ≤ 65536) (hm : m.length ≤ 65536) {ks : List Ky} {k : Nat} (h : KeysOf (mixP (cutL 3 3 5 l (pagesN l.length)) (cutL 3 3 6 m (pagesN m.length)) k) ks) :
    joinKs (mixP (cutL 3 3 5 l (pagesN l.length)) (cutL 3 3 6 m (pagesN m.length)) k) ks = [(k5, l), (k6, m)] :=
  join_two hl hm h (fun q => by rw [mem_mix, mem_cutL, mem_cutL])
theorem join_lessP {l m : List UInt8} (hl : l.length ≤ 65536) (hm : m.length ≤ 65536) {ks : List Ky} {d : Nat} (hd : d < pagesN l.length) (h : KeysOf (lessP (cutL 3 3 5 l (pagesN l.length)) (cutL 3 3 6 m (pagesN m.length)) d) ks) :
    joinKs (lessP (cutL 3 3 5 l (pagesN l.length)) (cutL 3 3 6 m (pagesN m.length)) d) ks = [(k6, m)] :=
  join_less hl hm hd h (fun q => by
    unfold lessP
    simp only [List.mem_append, mem_take', mem_drop', cutL_get, mem_cutL]
    constructor
    · rintro ((⟨i, h1, h2, rfl⟩ | ⟨i, h1, h2, rfl⟩) | h)
      · exact .inl ⟨i, h2, by omega, rfl⟩
      · exact .inl ⟨i, h2, by omega, rfl⟩
      · exact .inr h
    · rintro (⟨i, h1, h2, rfl⟩ | h)
      · by_cases g : i < d
        · exact .inl (.inl ⟨i, g, h1, rfl⟩)
        · exact .inl (.inr ⟨i, by omega, h1, rfl⟩)
      · exact .inr h)
theorem two_of {rs : List Sm} {k k' : Ky} {b b' : List UInt8} (h : rs.map (fun s => (s.key, s.bytes)) = [(k, b), (k', b')]) : ∃ s t, rs = [s, t] ∧ s.key = k ∧ s.bytes = b ∧ t.key = k' ∧ t.bytes = b' := by
  match rs, h with
  | [s, t], h =>
    simp only [List.map_cons, List.map_nil, List.cons.injEq, Prod.mk.injEq, and_true] at h
    exact ⟨s, t, rfl, h.1.1, h.1.2, h.2.1, h.2.2⟩
theorem mix_length {L O : List Pg} {k : Nat} (hk : k < L.length) (hO : 0 < O.length) : (mixP L O k).length = O.length + L.length + 1 := by
  unfold mixP
  simp only [List.length_append, List.length_drop, List.length_take]
  omega
theorem less_length {L O : List Pg} {d : Nat} (hd : d < L.length) : (lessP L O d).length = L.length - 1 + O.length := by
  unfold lessP
  simp only [List.length_append, List.length_drop, List.length_take]
  omega
theorem pgs_drop {l : List Pg} (h : ∀ p ∈ l, p.pay.length = 32) (a : Nat) : (pgs l).drop (a * 39) = pgs (l.drop a) := by
  induction l generalizing a with
  | nil => simp [pgs]
  | cons p l ih =>
    cases a with
    | zero => simp
    | succ a =>
      have hp := Pg.cells_length (h p (List.mem_cons_self ..))
      rw [List.drop_succ_cons, ← ih (fun q hq => h q (List.mem_cons_of_mem _ hq)), show pgs (p :: l) = p.cells ++ pgs l from by simp [pgs], List.drop_append, List.drop_eq_nil_of_le (by omega), List.nil_append, hp, show (a + 1) * 39 - 39 = a * 39 from by omega]
theorem pgs_take {l : List Pg} (h : ∀ p ∈ l, p.pay.length = 32) (a : Nat) : (pgs l).take (a * 39) = pgs (l.take a) := by
  induction l generalizing a with
  | nil => simp [pgs]
  | cons p l ih =>
    cases a with
    | zero => simp [pgs]
    | succ a =>
      have hp := Pg.cells_length (h p (List.mem_cons_self ..))
      rw [List.take_succ_cons, show pgs (p :: l.take a) = p.cells ++ pgs (l.take a) from by simp [pgs], ← ih (fun q hq => h q (List.mem_cons_of_mem _ hq)), show pgs (p :: l) = p.cells ++ pgs l from by simp [pgs], List.take_append, List.take_of_length_le (by omega), hp, show (a + 1) * 39 - 39 = a * 39 from by omega]
/-- A part of a row of pages. -/
theorem pgs_part {l : List Pg} {rest : List Value} (h : ∀ p ∈ l, p.pay.length = 32) {a n : Nat} (hn : a + n ≤ l.length) : ((pgs l ++ rest).drop (a * 39)).take (n * 39) = pgs ((l.drop a).take n) := by
  have hl := pgs_length h
  rw [List.drop_append_of_le_length (by rw [hl]; exact Nat.mul_le_mul_right _ (by omega)), pgs_drop h, List.take_append_of_le_length (by rw [pgs_length (fun p hp => h p (List.mem_of_mem_drop hp)), List.length_drop]; exact Nat.mul_le_mul_right _ (by omega)), pgs_take (fun p hp => h p (List.mem_of_mem_drop hp))]
theorem pgs_one {O : List Pg} (h : 0 < O.length) : pgs (O.take 1) = O[0].cells := by
  cases O with
  | nil => simp at h
  | cons p O => simp [pgs]
theorem src_part {P : Program} {Hs : List Assn} {b i cap a c' : Nat} {T : TypeId} {L : List Pg} {rest : List Value} (hn : nth Hs i = some (row b T (pgs L ++ rest))) (hp : ∀ p ∈ L, p.pay.length = 32) (hcap : L.length ≤ cap) (ha : a ≤ L.length) :
    Src P Hs (slc b (if cap = a then 0 else 0 + a * 39) (L.length - a) c') (L.length - a) 39 (pgs (L.drop a)) := by
  have hl := pgs_length hp
  by_cases h : cap = a
  · rw [if_pos h]
    have e : L.length - a = 0 := by omega
    have e2 : L.drop a = [] := List.drop_eq_nil_of_le (by omega)
    rw [e, e2]
    exact src_row hn (by omega) (by simp [pgs])
  · rw [if_neg h, Nat.zero_add]
    refine src_row hn ?_ ?_
    · rw [List.length_append, hl, ← Nat.add_mul, show a + (L.length - a) = L.length from by omega]
      omega
    · rw [pgs_part hp (by omega), List.take_of_length_le (by rw [List.length_drop]; omega)]
theorem src_take {P : Program} {Hs : List Assn} {b i a c' : Nat} {T : TypeId} {L : List Pg} {rest : List Value} (hn : nth Hs i = some (row b T (pgs L ++ rest))) (hp : ∀ p ∈ L, p.pay.length = 32) (ha : a ≤ L.length) :
    Src P Hs (slc b 0 a c') a 39 (pgs (L.take a)) := by
  have hl := pgs_length hp
  refine src_row hn ?_ ?_
  · rw [List.length_append, hl, Nat.zero_add]
    have := Nat.mul_le_mul_right 39 ha
    omega
  · have := pgs_part (rest := rest) hp (a := 0) (n := a) (by omega)
    rwa [Nat.zero_mul, List.drop_zero (l := L)] at this
theorem vec_same {el sz n n' : Nat} {v : Value} {xs xs' : List Value} (h1 : n = n') (h2 : xs = xs') : Ent (vec el sz v n xs) (vec el sz v n' xs') := by
  subst h1 h2
  exact Ent.refl _
theorem pgs_all {l : List Pg} : ∀ u ∈ pgs l, u.oneCell' = true := by
  intro u hu
  unfold pgs at hu
  obtain ⟨c, hc, hu⟩ := List.mem_flatten.1 hu
  obtain ⟨p, _, rfl⟩ := List.mem_map.1 hc
  exact Pg.one u hu
end Go.Mo
namespace Go.Mo
open Go Go.Sl
theorem wfold_tells {L : Int} {T : Nat} (hT : 1 ≤ T) : ∀ {ps : List Pg} {pt pt' : List (Option Pay)}, pt.length = T → wfold L T (some pt) ps = some pt' →
    pt'.length = T ∧ (∀ (i : Nat) c, pt[i]? = some (some c) → pt'[i]? = some (some c)) ∧ ∀ p ∈ ps, (p.lba = L ∧ p.total = T ∧ p.index < T) ∧ pt'[p.index.toNat]? = some (some p.pay)
  | [], pt, pt', hl, h => by
    obtain rfl := Option.some.inj (show some pt = some pt' from h)
    exact ⟨hl, fun _ _ h => h, fun p hp => by cases hp⟩
  | p :: ps, pt, pt', hl, h => by
    have h : wfold L T (wstep L T pt p) ps = some pt' := h
    by_cases hb : p.lba ≠ L ∨ p.total ≠ T ∨ (T : Int) ≤ p.index
    · rw [wstep_bad hb, wfold_none] at h; cases h
    have hi : p.index.toNat < pt.length := by rw [hl]; omega
    have hc : ∀ c, pt[p.index.toNat]? = some (some c) → c = p.pay := fun c hc => by
      by_cases g : c = p.pay
      · exact g
      · rw [wstep_dif hc g, wfold_none] at h; cases h
    rw [wstep_some hb hc] at h
    obtain ⟨k1, k2, k3⟩ := wfold_tells hT (by rw [List.length_set]; exact hl) h
    have hp : pt'[p.index.toNat]? = some (some p.pay) := k2 _ _ (by rw [List.getElem?_set, if_pos rfl, if_pos hi])
    refine ⟨k1, fun i c hic => ?_, fun q hq => ?_⟩
    · by_cases g : p.index.toNat = i
      · subst g
        rw [hc c hic]
        exact hp
      · exact k2 i c (by rw [List.getElem?_set, if_neg g]; exact hic)
    · rcases List.mem_cons.1 hq with rfl | hq
      · exact ⟨⟨Classical.not_not.1 fun g => hb (.inl g), Classical.not_not.1 fun g => hb (.inr (.inl g)), Int.not_le.1 fun g => hb (.inr (.inr g))⟩, hp⟩
      · exact k3 q hq
theorem marks_same {f : Nat → Pay} {T : Nat} {ps ps' : List Pg} (hm : ∀ q, q ∈ ps ↔ q ∈ ps') : marks f (List.replicate T none) ps = marks f (List.replicate T none) ps' := by
  apply List.ext_getElem?
  intro i
  by_cases hi : i < T
  · by_cases h : ∃ p ∈ ps, p.index.toNat = i
    · obtain ⟨p, hp, e⟩ := h
      rw [marks_in (by simpa using hi) (.inl ⟨p, hp, e⟩), marks_in (by simpa using hi) (.inl ⟨p, (hm p).1 hp, e⟩)]
    · rw [marks_out (fun p hp e => h ⟨p, hp, e⟩), marks_out (fun p hp e => h ⟨p, (hm p).2 hp, e⟩)]
  · rw [List.getElem?_eq_none (by rw [marks_length]; simpa using hi), List.getElem?_eq_none (by rw [marks_length]; simpa using hi)]
theorem whole_sub {ps ps' : List Pg} (h0 : ∀ p ∈ ps, 0 ≤ p.index) (hm : ∀ q, q ∈ ps ↔ q ∈ ps') {b : List UInt8} (h : wholeL ps = some b) : wholeL ps' = some b := by
  cases ps with
  | nil => cases h
  | cons p r =>
    cases ps' with
    | nil => exact absurd ((hm p).1 (List.mem_cons_self ..)) (by simp)
    | cons p' r' =>
      by_cases hL : 65536 < p.lba
      · rw [wholeL, if_pos hL] at h; cases h
      have hT : 1 ≤ pagesN p.lba.toNat := (pagesN_le (by omega)).1
      cases hw : wfold p.lba (pagesN p.lba.toNat) (some (List.replicate (pagesN p.lba.toNat) none)) (p :: r) with
      | none => rw [wholeL_fold hL hw] at h; cases h
      | some pt =>
        rw [wholeL_fold hL hw] at h
        obtain ⟨_, _, k3⟩ := wfold_tells hT (by simp) hw
        let f : Nat → Pay := fun i => ((pt[i]?).getD none).getD []
        have ht : ∀ q ∈ p :: r, Tell p.lba (pagesN p.lba.toNat) f q := fun q hq => by
          obtain ⟨⟨g1, g2, g3⟩, g4⟩ := k3 q hq
          exact ⟨g1, g2, h0 q hq, g3, by show q.pay = ((pt[q.index.toNat]?).getD none).getD []; rw [g4]; rfl⟩
        have ht' : ∀ q ∈ p' :: r', Tell p.lba (pagesN p.lba.toNat) f q := fun q hq => ht q ((hm q).2 hq)
        have e0 : ∀ (i : Nat) c, (List.replicate (pagesN p.lba.toNat) (none : Option Pay))[i]? = some (some c) → c = f i := fun i c hc => by
          rw [List.getElem?_replicate] at hc
          split at hc <;> cases hc
        have e1 := wfold_marks ht e0
        have e2 := wfold_marks ht' e0
        rw [hw] at e1
        have hp' : p'.lba = p.lba := (ht' p' (List.mem_cons_self ..)).lba
        rw [wholeL_fold (o := some pt) (by rw [hp']; exact hL) (by rw [hp', e2, ← marks_same hm, ← e1]), hp']
        exact h
theorem whole_same {ps ps' : List Pg} (h0 : ∀ p ∈ ps, 0 ≤ p.index) (hm : ∀ q, q ∈ ps ↔ q ∈ ps') : wholeL ps = wholeL ps' := by
  cases h : wholeL ps with
  | some b => exact (whole_sub h0 hm h).symm
  | none =>
    cases h' : wholeL ps' with
    | none => rfl
    | some b =>
      have := whole_sub (fun p hp => h0 p ((hm p).2 hp)) (fun q => (hm q).symm) h'
      rw [h] at this
      cases this
theorem joinR_same {ps ps' : List Pg} (h0 : ∀ p ∈ ps, 0 ≤ p.index) (hm : ∀ q, q ∈ ps ↔ q ∈ ps') (k : Ky) : joinR ps k = joinR ps' k := by
  unfold joinR
  refine whole_same (fun p hp => h0 p (List.mem_filter.1 hp).1) (fun q => ?_)
  rw [List.mem_filter, List.mem_filter, hm q]
theorem keys_same {ps ps' : List Pg} {ks ks' : List Ky} (hm : ∀ q, q ∈ ps ↔ q ∈ ps') (h : KeysOf ps ks) (h' : KeysOf ps' ks') : ks = ks' :=
  h.unique ⟨h'.up, fun k => by
    rw [h'.mem]
    constructor
    · rintro ⟨p, hp, g⟩; exact ⟨p, (hm p).2 hp, g⟩
    · rintro ⟨p, hp, g⟩; exact ⟨p, (hm p).1 hp, g⟩⟩
theorem joinKs_same {ps ps' : List Pg} {ks ks' : List Ky} (h0 : ∀ p ∈ ps, 0 ≤ p.index) (hm : ∀ q, q ∈ ps ↔ q ∈ ps') (h : KeysOf ps ks) (h' : KeysOf ps' ks') : joinKs ps ks = joinKs ps' ks' := by
  rw [← keys_same hm h h']
  unfold joinKs
  congr 1
  funext k
  rw [joinR_same h0 hm k]
end Go.Mo
