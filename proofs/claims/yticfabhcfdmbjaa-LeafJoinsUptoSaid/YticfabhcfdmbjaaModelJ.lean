/-
  What leaf.Join answers, in plain words: no program in sight.
-/
import Derived.Test.YticfabhcfdmbjaaModelR
set_option linter.unusedVariables false
set_option linter.unusedSimpArgs false
namespace Go.Mo
open Go Go.Sl
/-- A stream made: its key, its slice, its bytes. -/
structure Sm where
  key : Ky
  v : Value
  bytes : List UInt8
def Sm.cells (s : Sm) : List Value := strm s.key.kind s.key.epoch s.key.group s.v
def Sm.own (s : Sm) : Assn := vec 5 1 s.v s.bytes.length (s.bytes.map u8V)
/-- The bytes of a key's pages, if they are whole. -/
def joinR (ps : List Pg) (k : Ky) : Option (List UInt8) := wholeL (ps.filter fun p => decide (p.valid ∧ p.key = k))
def joinKs (ps : List Pg) (ks : List Ky) : List (Ky × List UInt8) := ks.filterMap fun k => (joinR ps k).map fun b => (k, b)
theorem joinKs_take {ps : List Pg} {ks : List Ky} {m : Nat} (hm : m < ks.length) : joinKs ps (ks.take (m + 1)) = joinKs ps (ks.take m) ++ (match joinR ps ks[m] with | none => [] | some b => [(ks[m], b)]) := by
  unfold joinKs
  rw [List.take_succ_eq_append_getElem hm, List.filterMap_append]
  congr 1
  cases h : joinR ps ks[m] <;> simp [h]
/-- The keys of the pages, each once, in order. -/
structure KeysOf (ps : List Pg) (ks : List Ky) : Prop where
  up : ks.Pairwise ltK
  mem : ∀ k, k ∈ ks ↔ ∃ p ∈ ps, p.valid ∧ p.key = k
theorem keysOf_of {ps : List Pg} {st : List Gr} (h : Grouped ps st) {ys : List Ky} (hp : ys.Perm (st.map (·.k))) (hs : ∀ i j (hi : i < j) (hj : j < ys.length), ¬ ltK ys[j] (ys[i]'(by omega))) : KeysOf ps ys := by
  refine ⟨?_, fun k => by rw [hp.mem_iff]; exact h.mem k⟩
  have hn : ys.Nodup := hp.nodup_iff.2 h.nodup
  rw [List.pairwise_iff_getElem]
  intro i j hi hj hij
  have h1 := hs i j hij hj
  have h2 := (List.pairwise_iff_getElem.1 hn) i j hi hj hij
  by_cases h3 : ltK ys[i] ys[j]
  · exact h3
  · exact absurd (ltK_total h3 h1) h2
/-- What leaf.Join gives. -/
def JoinQ (A : Assn) (ps : List Pg) : Value → List Assn → Prop := fun v Ps =>
  ∃ (ks : List Ky) (rs : List Sm), KeysOf ps ks ∧ rs.map (fun s => (s.key, s.bytes)) = joinKs ps ks ∧ v.oneCell' = true ∧ (∀ s ∈ rs, s.v.oneCell' = true) ∧ Ps = [vec 51 4 v rs.length ((rs.map Sm.cells).flatten), sep (rs.map Sm.own), A]
theorem KeysOf.unique {ps : List Pg} {a b : List Ky} (ha : KeysOf ps a) (hb : KeysOf ps b) : a = b := by
  have hp : a.Perm b := by
    rw [List.perm_ext_iff_of_nodup]
    · intro k
      rw [ha.mem, hb.mem]
    · exact ha.up.imp (S := (· ≠ ·)) (fun {x y} h e => ltK_irrefl y (by rw [e] at h; exact h))
    · exact hb.up.imp (S := (· ≠ ·)) (fun {x y} h e => ltK_irrefl y (by rw [e] at h; exact h))
  exact hp.eq_of_pairwise (fun x y _ _ h1 h2 => absurd (ltK_trans h1 h2) (ltK_irrefl _)) ha.up hb.up
theorem WholeQ_tup {A : Assn} {ps : List Pg} {v : Value} {Ps : List Assn} (h : WholeQ A ps v Ps) : ∃ x y, v = .tuple #[x, .bool y] ∧ (y = true → ∃ bs, wholeL ps = some bs ∧ x.oneCell' = true ∧ Ps = [vec 5 1 x bs.length (bs.map u8V), A]) ∧ (y = false → wholeL ps = none ∧ Ps = [A]) := by
  unfold WholeQ at h
  cases hw : wholeL ps with
  | none =>
    rw [hw] at h
    exact ⟨_, false, h.1, (fun e => Bool.noConfusion e), fun _ => ⟨rfl, h.2⟩⟩
  | some bs =>
    rw [hw] at h
    obtain ⟨bv, h1, h2, h3⟩ := h
    exact ⟨bv, true, h1, (fun _ => ⟨bs, rfl, h2, h3⟩), (fun e => Bool.noConfusion e)⟩
theorem Sm.one {k : Ky} {x : Value} (h : x.oneCell' = true) : ∀ u ∈ strm k.kind k.epoch k.group x, u.oneCell' = true := by
  intro u hu
  unfold strm at hu
  simp at hu
  rcases hu with rfl | rfl | rfl | rfl
  · rfl
  · rfl
  · rfl
  · exact h
theorem sm_push {rs : List Sm} {s : Sm} {R : List Assn} : Ent (sep (s.own :: sep (rs.map Sm.own) :: R)) (sep (sep ((rs ++ [s]).map Sm.own) :: R)) := by
  refine (Ent.cons (Ent.refl _) (Ent.flat _ _)).trans ?_
  rw [List.map_append]
  refine (Ent.perm (L := s.own :: (rs.map Sm.own ++ R)) (M := rs.map Sm.own ++ [s].map Sm.own ++ R) ?_).trans (Ent.unflat _ _)
  have := (List.perm_append_comm (l₁ := [s.own]) (l₂ := rs.map Sm.own)).append_right R
  simpa using this
theorem vec_form {el sz n : Nat} {v : Value} {xs : List Value} : ∀ x, vec el sz v n xs x → ∃ q m c, v = .slice q m c := by
  rintro x ⟨_, h⟩
  rcases h with ⟨rfl, _⟩ | ⟨b, cap, rest, rfl, _⟩
  · exact ⟨_, _, _, rfl⟩
  · exact ⟨_, _, _, rfl⟩
theorem sm_all {rs : List Sm} {s : Sm} (h : ∀ t ∈ rs, t.v.oneCell' = true) (hs : s.v.oneCell' = true) : ∀ t ∈ rs ++ [s], t.v.oneCell' = true := fun t ht => by
  rcases List.mem_append.1 ht with h1 | h1
  · exact h t h1
  · rw [List.mem_singleton.1 h1]; exact hs
end Go.Mo
namespace Go.Mo
open Go Go.Sl
/-- A page that tells what f says of its place. -/
structure Tell (L : Int) (T : Nat) (f : Nat → Pay) (p : Pg) : Prop where
  lba : p.lba = L
  total : p.total = T
  lo : 0 ≤ p.index
  hi : p.index < T
  pay : p.pay = f p.index.toNat
def marks (f : Nat → Pay) (pt : List (Option Pay)) (ps : List Pg) : List (Option Pay) := ps.foldl (fun pt p => pt.set p.index.toNat (some (f p.index.toNat))) pt
theorem wfold_marks {L : Int} {T : Nat} {f : Nat → Pay} : ∀ {ps : List Pg} {pt : List (Option Pay)}, (∀ p ∈ ps, Tell L T f p) → (∀ (i : Nat) c, pt[i]? = some (some c) → c = f i) → wfold L T (some pt) ps = some (marks f pt ps)
  | [], _, _, _ => rfl
  | p :: ps, pt, h, hc => by
    have hp := h p (List.mem_cons_self ..)
    have e : wstep L T pt p = some (pt.set p.index.toNat (some (f p.index.toNat))) := by
      rw [wstep_some (by
        rintro (g | g | g)
        · exact g hp.lba
        · exact g hp.total
        · have := hp.hi; omega) (fun c hcc => by rw [hc _ _ hcc, hp.pay]), hp.pay]
    show wfold L T ((some pt).bind fun pt => wstep L T pt p) ps = _
    rw [Option.bind_some, e]
    refine wfold_marks (fun q hq => h q (List.mem_cons_of_mem _ hq)) (fun i c hi => ?_)
    rw [List.getElem?_set] at hi
    split at hi
    · rename_i g
      subst g
      split at hi
      · simp only [Option.some.injEq] at hi
        exact hi.symm
      · cases hi
    · exact hc i c hi
theorem marks_length {f : Nat → Pay} : ∀ {ps : List Pg} {pt : List (Option Pay)}, (marks f pt ps).length = pt.length
  | [], _ => rfl
  | p :: ps, pt => by
    show (marks f (pt.set _ _) ps).length = _
    rw [marks_length, List.length_set]
theorem marks_in {f : Nat → Pay} {i : Nat} : ∀ {ps : List Pg} {pt : List (Option Pay)}, i < pt.length → ((∃ p ∈ ps, p.index.toNat = i) ∨ pt[i]? = some (some (f i))) → (marks f pt ps)[i]? = some (some (f i))
  | [], pt, _, h => by
    rcases h with ⟨p, hp, _⟩ | h
    · cases hp
    · exact h
  | p :: ps, pt, hi, h => by
    show (marks f (pt.set p.index.toNat (some (f p.index.toNat))) ps)[i]? = _
    refine marks_in (by rw [List.length_set]; exact hi) ?_
    by_cases g : p.index.toNat = i
    · right
      rw [List.getElem?_set, if_pos g, if_pos (by rw [g]; exact hi), g]
    · rcases h with ⟨q, hq, e⟩ | h
      · rcases List.mem_cons.1 hq with rfl | hq
        · exact absurd e g
        · exact .inl ⟨q, hq, e⟩
      · right
        rw [List.getElem?_set, if_neg g]; exact h
theorem marks_out {f : Nat → Pay} {i : Nat} : ∀ {ps : List Pg} {pt : List (Option Pay)}, (∀ p ∈ ps, p.index.toNat ≠ i) → (marks f pt ps)[i]? = pt[i]?
  | [], _, _ => rfl
  | p :: ps, pt, h => by
    show (marks f (pt.set p.index.toNat (some (f p.index.toNat))) ps)[i]? = _
    rw [marks_out (fun q hq => h q (List.mem_cons_of_mem _ hq)), List.getElem?_set, if_neg (h p (List.mem_cons_self ..))]
theorem allP_map (f : Nat → Pay) : ∀ (l : List Nat), allP (l.map fun i => some (f i)) = some ((l.map f).flatten)
  | [] => rfl
  | i :: l => by
    show Option.map (f i ++ ·) (allP (l.map fun i => some (f i))) = _
    rw [allP_map f l]
    rfl
/-- All the places are told: the bytes. -/
theorem whole_all {p : Pg} {ps : List Pg} {L : Int} {f : Nat → Pay} (hL : L ≤ 65536) (h : ∀ q ∈ p :: ps, Tell L (pagesN L.toNat) f q) (ha : ∀ i < pagesN L.toNat, ∃ q ∈ p :: ps, q.index.toNat = i)
    (hz : ∀ x ∈ ((List.range (pagesN L.toNat)).map f).flatten.drop L.toNat, x = 0) : wholeL (p :: ps) = some (((List.range (pagesN L.toNat)).map f).flatten.take L.toNat) := by
  have hp : p.lba = L := (h p (List.mem_cons_self ..)).lba
  have hm : marks f (List.replicate (pagesN L.toNat) none) (p :: ps) = (List.range (pagesN L.toNat)).map fun i => some (f i) := by
    apply List.ext_getElem?
    intro i
    by_cases hi : i < pagesN L.toNat
    · rw [marks_in (by simpa using hi) (.inl (ha i hi)), List.getElem?_map, List.getElem?_range hi]
      rfl
    · rw [List.getElem?_eq_none (by rw [marks_length]; simpa using hi), List.getElem?_eq_none (by simpa using hi)]
  have hw := wfold_marks (pt := List.replicate (pagesN L.toNat) none) h (fun i c hc => by
    rw [List.getElem?_replicate] at hc
    split at hc <;> cases hc)
  rw [hm] at hw
  have hf := wholeL_fold (p := p) (ps := ps) (by rw [hp]; omega) (by rw [hp])
  rw [hf, hw, Option.bind_some, hp]
  exact wholeT_some (allP_map f _) hz
/-- Some place is not told: none. -/
theorem whole_less {ps : List Pg} {L : Int} {f : Nat → Pay} (hL : L ≤ 65536) (h : ∀ q ∈ ps, Tell L (pagesN L.toNat) f q) {i : Nat} (hi : i < pagesN L.toNat) (ha : ∀ q ∈ ps, q.index.toNat ≠ i) : wholeL ps = none := by
  cases ps with
  | nil => rfl
  | cons p ps =>
    have hp : p.lba = L := (h p (List.mem_cons_self ..)).lba
    have hw := wfold_marks (pt := List.replicate (pagesN L.toNat) none) h (fun i c hc => by
      rw [List.getElem?_replicate] at hc
      split at hc <;> cases hc)
    have hf := wholeL_fold (p := p) (ps := ps) (by rw [hp]; omega) (by rw [hp])
    rw [hf, hw, Option.bind_some]
    refine wholeT_dead ?_
    have hlen : i < (marks f (List.replicate (pagesN L.toNat) none) (p :: ps)).length := by rw [marks_length]; simpa using hi
    refine allP_dead hlen ?_
    have h1 := marks_out (f := f) (pt := List.replicate (pagesN L.toNat) none) ha
    rw [List.getElem?_eq_getElem hlen, List.getElem?_replicate, if_pos hi] at h1
    exact Option.some.inj h1
theorem pads (T : Nat) : ∀ (b : List UInt8), b.length ≤ T * 32 → ((List.range T).map fun i => pad32 (b.drop (i * 32))).flatten = b ++ List.replicate (T * 32 - b.length) 0 := by
  induction T with
  | zero => intro b h; have : b = [] := List.length_eq_zero_iff.1 (by omega); subst this; rfl
  | succ T ih =>
    intro b h
    have e : (List.range (T + 1)).map (fun i => pad32 (b.drop (i * 32))) = pad32 b :: (List.range T).map (fun i => pad32 ((b.drop 32).drop (i * 32))) := by
      rw [List.range_succ_eq_map, List.map_cons, List.map_map]
      congr 1
      apply List.map_congr_left
      intro i _
      show pad32 (b.drop ((i + 1) * 32)) = _
      rw [List.drop_drop, show 32 + i * 32 = (i + 1) * 32 from by omega]
    rw [e, List.flatten_cons, ih (b.drop 32) (by rw [List.length_drop]; omega), List.length_drop]
    unfold pad32
    by_cases hb : 32 ≤ b.length
    · rw [show 32 - b.length = 0 from by omega, List.replicate_zero, List.append_nil, ← List.append_assoc, List.take_append_drop, show T * 32 - (b.length - 32) = (T + 1) * 32 - b.length from by omega]
    · rw [List.take_of_length_le (by omega), List.drop_eq_nil_of_le (by omega), List.nil_append, List.append_assoc, List.replicate_append_replicate, show 32 - b.length + (T * 32 - (b.length - 32)) = (T + 1) * 32 - b.length from by omega]
theorem tell_page {kind epoch group : Int} {b : List UInt8} {i : Nat} (hi : i < pagesN b.length) : Tell b.length (pagesN b.length) (fun i => pad32 (b.drop (i * 32))) (pageOf kind epoch group b i) :=
  ⟨rfl, rfl, Int.natCast_nonneg _, Int.ofNat_lt.2 hi, by show _ = pad32 (b.drop ((i : Int).toNat * 32)); rw [Int.toNat_natCast]; rfl⟩
theorem page_index {kind epoch group : Int} {b : List UInt8} {i : Nat} : (pageOf kind epoch group b i).index.toNat = i := Int.toNat_natCast i
/-- All of a key's pages there, and no other of that key: the stream. -/
theorem joinR_all {ps : List Pg} {k : Ky} {b : List UInt8} (hk : k.kind = 2 ∨ k.kind = 3) (hb : b.length ≤ 65536) (h1 : ∀ q ∈ ps, q.valid → q.key = k → ∃ i < pagesN b.length, q = pageOf k.kind k.epoch k.group b i)
    (h2 : ∀ i < pagesN b.length, pageOf k.kind k.epoch k.group b i ∈ ps) : joinR ps k = some b := by
  unfold joinR
  have hmem : ∀ i < pagesN b.length, pageOf k.kind k.epoch k.group b i ∈ ps.filter (fun p => decide (p.valid ∧ p.key = k)) := fun i hi =>
    List.mem_filter.2 ⟨h2 i hi, decide_eq_true ⟨hk, rfl⟩⟩
  obtain ⟨p0, pr, hp⟩ : ∃ p0 pr, ps.filter (fun p => decide (p.valid ∧ p.key = k)) = p0 :: pr := by
    cases hc : ps.filter (fun p => decide (p.valid ∧ p.key = k)) with
    | nil => have := hmem 0 (by have := (pagesN_le hb).1; omega); rw [hc] at this; cases this
    | cons a l => exact ⟨a, l, rfl⟩
  have e : ((b.length : Int)).toNat = b.length := Int.toNat_natCast _
  have hle := (pagesN_le hb).2.2.2
  rw [hp]
  rw [hp] at hmem
  have hfl := pads (pagesN b.length) b hle
  rw [whole_all (L := b.length) (f := fun i => pad32 (b.drop (i * 32))) (by omega) (fun q hq => by
    rw [e]
    rw [← hp] at hq
    obtain ⟨hq1, hq2⟩ := List.mem_filter.1 hq
    have hq2 := of_decide_eq_true hq2
    obtain ⟨i, hi, rfl⟩ := h1 q hq1 hq2.1 hq2.2
    exact tell_page hi) (fun i hi => by
    rw [e] at hi
    exact ⟨_, hmem i hi, page_index⟩) (fun x hx => by
    rw [e, hfl, List.drop_left] at hx
    exact (List.mem_replicate.1 hx).2)]
  rw [e, hfl, List.take_left]
/-- One of a key's pages not there: nothing. -/
theorem joinR_less {ps : List Pg} {k : Ky} {b : List UInt8} (hb : b.length ≤ 65536) (h1 : ∀ q ∈ ps, q.valid → q.key = k → ∃ i < pagesN b.length, q = pageOf k.kind k.epoch k.group b i)
    {j : Nat} (hj : j < pagesN b.length) (h2 : pageOf k.kind k.epoch k.group b j ∉ ps) : joinR ps k = none := by
  unfold joinR
  have e : ((b.length : Int)).toNat = b.length := Int.toNat_natCast _
  have key : ∀ q ∈ ps.filter (fun p => decide (p.valid ∧ p.key = k)), ∃ i < pagesN b.length, q = pageOf k.kind k.epoch k.group b i ∧ q ∈ ps := fun q hq => by
    obtain ⟨hq1, hq2⟩ := List.mem_filter.1 hq
    have hq2 := of_decide_eq_true hq2
    obtain ⟨i, hi, h⟩ := h1 q hq1 hq2.1 hq2.2
    exact ⟨i, hi, h, hq1⟩
  refine whole_less (L := b.length) (f := fun i => pad32 (b.drop (i * 32))) (i := j) (by omega) (fun q hq => ?_) (by rw [e]; exact hj) (fun q hq => ?_)
  · obtain ⟨i, hi, rfl, _⟩ := key q hq
    rw [e]
    exact tell_page hi
  · obtain ⟨i, hi, rfl, hm⟩ := key q hq
    rw [page_index]
    intro g
    subst g
    exact h2 hm
/-- One key alone. -/
theorem keys_one {ps : List Pg} {k : Ky} {ks : List Ky} (h : KeysOf ps ks) (h1 : ∀ q ∈ ps, q.valid → q.key = k) (h2 : ∃ q ∈ ps, q.valid ∧ q.key = k) : ks = [k] :=
  h.unique ⟨List.pairwise_singleton _ _, fun x => by
    rw [List.mem_singleton]
    constructor
    · rintro rfl; exact h2
    · rintro ⟨q, hq, hv, rfl⟩; exact h1 q hq hv⟩
theorem keys_two {ps : List Pg} {k l : Ky} {ks : List Ky} (h : KeysOf ps ks) (hl : ltK k l) (h1 : ∀ q ∈ ps, q.valid → q.key = k ∨ q.key = l) (h2 : ∃ q ∈ ps, q.valid ∧ q.key = k) (h3 : ∃ q ∈ ps, q.valid ∧ q.key = l) : ks = [k, l] :=
  h.unique ⟨List.pairwise_pair.2 hl, fun x => by
    rw [List.mem_cons, List.mem_singleton]
    constructor
    · rintro (rfl | rfl)
      · exact h2
      · exact h3
    · rintro ⟨q, hq, hv, rfl⟩; exact h1 q hq hv⟩
theorem mem_cutL {kind epoch group : Int} {b : List UInt8} {n : Nat} {q : Pg} : q ∈ cutL kind epoch group b n ↔ ∃ i < n, q = pageOf kind epoch group b i := by
  unfold cutL
  rw [List.mem_map]
  constructor
  · rintro ⟨i, hi, rfl⟩; exact ⟨i, List.mem_range.1 hi, rfl⟩
  · rintro ⟨i, hi, rfl⟩; exact ⟨i, List.mem_range.2 hi, rfl⟩
/-- A stream's pages, joined: the stream. -/
theorem join_cut {kind epoch group : Int} {b : List UInt8} {ks : List Ky} (hk : kind = 2 ∨ kind = 3) (hb : b.length ≤ 65536) (h : KeysOf (cutL kind epoch group b (pagesN b.length)) ks) :
    joinKs (cutL kind epoch group b (pagesN b.length)) ks = [(⟨kind, epoch, group⟩, b)] := by
  have h1 : ∀ q ∈ cutL kind epoch group b (pagesN b.length), q.valid → q.key = ⟨kind, epoch, group⟩ := fun q hq _ => by
    obtain ⟨i, _, rfl⟩ := mem_cutL.1 hq; rfl
  have h0 : pageOf kind epoch group b 0 ∈ cutL kind epoch group b (pagesN b.length) := mem_cutL.2 ⟨0, by have := (pagesN_le hb).1; omega, rfl⟩
  rw [keys_one h h1 ⟨_, h0, hk, rfl⟩]
  have := joinR_all (ps := cutL kind epoch group b (pagesN b.length)) (k := ⟨kind, epoch, group⟩) hk hb (fun q hq _ _ => mem_cutL.1 hq) (fun i hi => mem_cutL.2 ⟨i, hi, rfl⟩)
  simp [joinKs, this]
end Go.Mo
