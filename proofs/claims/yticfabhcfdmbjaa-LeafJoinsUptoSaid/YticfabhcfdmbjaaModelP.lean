/-
  Sectors, in plain words: no program in sight.
-/
import Derived.Test.YticfabhcfdmbjaaSl9
set_option linter.unusedVariables false
set_option linter.unusedSimpArgs false
namespace Go.Mo
open Go Go.Sl

/-- Is a range right, of so many sectors? -/
def Right (c lba n : Int) : Prop := 1 ≤ n ∧ n ≤ c ∧ 0 ≤ lba ∧ lba ≤ c - n
instance (c lba n : Int) : Decidable (Right c lba n) := by unfold Right; infer_instance
/-- A sector in memory: its block, its spare room, its bytes. -/
structure Sec where
  b : Nat
  cap : Nat
  s : List UInt8
  rest : List Value
def Sec.hdr (d : Sec) : Value := slc d.b 0 32 d.cap
def Sec.own (T : Nat) (d : Sec) : Assn := row d.b T (d.s.map u8V ++ d.rest)
def Sec.ok (d : Sec) : Prop := d.s.length = 32
abbrev bytesOf (ds : List Sec) : List (List UInt8) := ds.map (·.s)
/-- 32 bytes: the first of l, noughts behind. -/
def pad32 (l : List UInt8) : List UInt8 := l.take 32 ++ List.replicate (32 - l.length) 0
theorem pad32_length (l : List UInt8) : (pad32 l).length = 32 := by simp [pad32]; omega
/-- A sector of noughts. -/
def z32 : List UInt8 := List.replicate 32 0
/-- k sectors written from lba on. -/
def wrK (secs : List (List UInt8)) (lba : Nat) (data : List UInt8) : Nat → List (List UInt8)
  | 0 => secs
  | k + 1 => (wrK secs lba data k).set (lba + k) (pad32 (data.drop (32 * k)))
theorem wrK_length (secs : List (List UInt8)) (lba : Nat) (data : List UInt8) : ∀ k, (wrK secs lba data k).length = secs.length
  | 0 => rfl
  | k + 1 => by rw [wrK, List.length_set, wrK_length]
theorem lay_pad (l : List UInt8) : lay (zeros 32 [.int .u8 0]) 0 ((l.map u8V).take (min l.length 32 * 1)) = (pad32 l).map u8V := by
  have h32 : (zeros 32 [.int .u8 0]).length = 32 := by rw [zeros_length]; rfl
  have hm : min l.length 32 * 1 = min l.length 32 := by rw [Nat.mul_one]
  rw [hm, lay_eq _ _ _ (by rw [h32, List.length_take]; simp; omega)]
  have ez : zeros 32 [.int .u8 0] = List.replicate 32 (Value.int .u8 0) := rfl
  rw [ez]
  simp only [List.take_zero, List.nil_append, List.length_take, List.length_map, List.drop_replicate, pad32, List.map_append, List.map_take, List.map_replicate]
  by_cases h : l.length ≤ 32
  · rw [List.take_of_length_le (by simp; omega), List.take_of_length_le (by simp; omega)]
    congr 2
    omega
  · rw [show min l.length 32 = 32 from by omega]
    congr 2
    omega
/-- The array's resources. -/
def arrR (TA TS TB : Nat) (a p cap : Nat) (ds : List Sec) (rest : List Value) : List Assn := [row a TA [slc p 0 ds.length cap], row p TS (ds.map Sec.hdr ++ rest), sep (ds.map (Sec.own TB))]
theorem set_hdr {ds : List Sec} {rest : List Value} {j : Nat} {d : Sec} (hj : j < ds.length) : (ds.map Sec.hdr ++ rest).set j d.hdr = (ds.set j d).map Sec.hdr ++ rest := by
  rw [List.set_append_left _ _ (by simpa using hj), List.map_set]
theorem own_set {TB : Nat} {ds : List Sec} {j : Nat} {d : Sec} {R : List Assn} (hj : j < ds.length) : Ent (sep (d.own TB :: sep (ds.map (Sec.own TB)) :: R)) (sep (sep ((ds.set j d).map (Sec.own TB)) :: R)) := by
  have hn : nth (ds.map (Sec.own TB)) j = some (Sec.own TB ds[j]) := by rw [nth_map, nth_get hj]; rfl
  have e : setN (ds.map (Sec.own TB)) j (d.own TB) = (ds.set j d).map (Sec.own TB) := by rw [setN_eq, List.map_set]
  rw [← e]
  refine (Ent.cons (Ent.refl _) (Ent.bor hn)).trans ?_
  refine (Ent.cons (Ent.refl _) (Ent.drop _ _)).trans ?_
  exact Ent.unbor hn
theorem own_push {TB : Nat} {ds : List Sec} {d : Sec} {R : List Assn} : Ent (sep (d.own TB :: sep (ds.map (Sec.own TB)) :: R)) (sep (sep ((ds ++ [d]).map (Sec.own TB)) :: R)) := by
  refine (Ent.cons (Ent.refl _) (Ent.flat _ _)).trans ?_
  have : (ds ++ [d]).map (Sec.own TB) = ds.map (Sec.own TB) ++ [d.own TB] := by simp
  rw [this]
  refine (Ent.perm (L := d.own TB :: (ds.map (Sec.own TB) ++ R)) (M := ds.map (Sec.own TB) ++ [d.own TB] ++ R) ?_).trans (Ent.unflat _ _)
  have := (List.perm_append_comm (l₁ := [d.own TB]) (l₂ := ds.map (Sec.own TB))).append_right R
  simpa using this
theorem bytes_set (ds : List Sec) (j : Nat) (d : Sec) : bytesOf (ds.set j d) = (bytesOf ds).set j d.s := by simp [bytesOf, List.map_set]
theorem ok_set {ds : List Sec} {j : Nat} {d : Sec} (h : ∀ x ∈ ds, x.ok) (hd : d.ok) : ∀ x ∈ ds.set j d, x.ok := fun x hx => by
  rcases List.mem_or_eq_of_mem_set hx with h1 | rfl
  · exact h x h1
  · exact hd
/-- All bytes, one behind the other. -/
def cat (ds : List Sec) : List UInt8 := (ds.map (·.s)).flatten
theorem cat_length {ds : List Sec} (h : ∀ x ∈ ds, x.ok) : (cat ds).length = 32 * ds.length := by
  unfold cat
  induction ds with
  | nil => rfl
  | cons d ds ih =>
    simp only [List.map_cons, List.flatten_cons, List.length_append, List.length_cons]
    rw [ih (fun x hx => h x (List.mem_cons_of_mem _ hx)), show d.s.length = 32 from h d (List.mem_cons_self ..)]
    omega
theorem cat_take {ds : List Sec} {k : Nat} (h : k < ds.length) : cat (ds.take (k + 1)) = cat (ds.take k) ++ ds[k].s := by
  unfold cat
  rw [List.take_succ_eq_append_getElem h, List.map_append, List.flatten_append]
  simp only [List.map_cons, List.map_nil, List.flatten_cons, List.flatten_nil, List.append_nil]
theorem Sec.src {P : Program} {Hs : List Assn} {TB i : Nat} {d : Sec} (hn : nth Hs i = some (Sec.own TB d)) (hok : d.ok) : Src P Hs d.hdr 32 1 (d.s.map u8V) := by
  unfold Sec.ok at hok
  refine src_row (cs := d.s.map u8V ++ d.rest) hn (by simp [hok]) ?_
  rw [List.drop_zero, List.take_append_of_le_length (by simp [hok]), List.take_of_length_le (by simp [hok])]
theorem own_nth {TB : Nat} {ds : List Sec} {j : Nat} (hj : j < ds.length) : nth (ds.map (Sec.own TB)) j = some (Sec.own TB ds[j]) := by rw [nth_map, nth_get hj]; rfl
theorem ok_get {ds : List Sec} (h : ∀ x ∈ ds, x.ok) {j : Nat} (hj : j < ds.length) : ds[j].ok := h _ (List.getElem_mem hj)
theorem own_back {TB : Nat} {ds : List Sec} {j : Nat} {R : List Assn} (hj : j < ds.length) : Ent (sep (Sec.own TB ds[j] :: sep (delN (ds.map (Sec.own TB)) j) :: R)) (sep (sep (ds.map (Sec.own TB)) :: R)) := by
  have := Ent.unbor (R := R) (B := Sec.own TB ds[j]) (own_nth (TB := TB) hj)
  rwa [setN_same (own_nth hj)] at this
theorem Sec.srcIn {P : Program} {Hs : List Assn} {TB i j : Nat} {ds : List Sec} (hn : nth Hs i = some (sep (ds.map (Sec.own TB)))) (hok : ∀ x ∈ ds, x.ok) (hj : j < ds.length) : Src P Hs ds[j].hdr 32 1 (ds[j].s.map u8V) :=
  Src.ent (Ent.inside hn (own_nth hj)) (Sec.src (i := 0) rfl (ok_get hok hj))
theorem own_mid {TB : Nat} {A B C : List Sec} {R : List Assn} : Ent (sep (sep ((A ++ B ++ C).map (Sec.own TB)) :: R)) (sep (sep (B.map (Sec.own TB)) :: sep ((A ++ C).map (Sec.own TB)) :: R)) := by
  refine (Ent.flat _ _).trans (Ent.trans (Ent.perm ?_) ((Ent.unflat _ _).trans (Ent.cons (Ent.refl _) (Ent.unflat _ _))))
  simp only [List.map_append, List.append_assoc]
  rw [← List.append_assoc, ← List.append_assoc (List.map (Sec.own TB) B)]
  exact List.Perm.append_right _ List.perm_append_comm
theorem own_unmid {TB : Nat} {A B C : List Sec} {R : List Assn} : Ent (sep (sep (B.map (Sec.own TB)) :: sep ((A ++ C).map (Sec.own TB)) :: R)) (sep (sep ((A ++ B ++ C).map (Sec.own TB)) :: R)) := by
  refine Ent.trans ((Ent.cons (Ent.refl _) (Ent.flat _ _)).trans (Ent.flat _ _)) (Ent.trans (Ent.perm ?_) (Ent.unflat _ _))
  simp only [List.map_append, List.append_assoc]
  rw [← List.append_assoc, ← List.append_assoc (List.map (Sec.own TB) A)]
  exact List.Perm.append_right _ List.perm_append_comm
theorem mid_eq (ds : List Sec) (i n : Nat) : ds = ds.take i ++ (ds.drop i).take n ++ ds.drop (i + n) := by
  rw [List.append_assoc, ← List.drop_drop, List.take_append_drop, List.take_append_drop]
theorem hdr_get {ds : List Sec} {rest : List Value} {k : Nat} (h : k < ds.length) : (ds.map Sec.hdr ++ rest)[0 + k]? = some ds[k].hdr := by
  rw [Nat.zero_add, List.getElem?_append_left (by simpa using h)]
  simp [h]
/-- Which sectors differ, of the first k. -/
def difK (x y : List (List UInt8)) : Nat → List Nat
  | 0 => []
  | k + 1 => if x.length ≤ k ∨ y.length ≤ k ∨ x[k]? ≠ y[k]? then difK x y k ++ [k] else difK x y k
theorem difK_length (x y : List (List UInt8)) : ∀ k, (difK x y k).length ≤ k
  | 0 => Nat.le_refl _
  | k + 1 => by
    have := difK_length x y k
    rw [difK]
    split
    · rw [List.length_append]; simp; omega
    · omega
/-- m bytes: the first of l, noughts behind. -/
def padN (m : Nat) (l : List UInt8) : List UInt8 := l.take m ++ List.replicate (m - l.length) 0
theorem padN_length (m : Nat) (l : List UInt8) : (padN m l).length = m := by simp [padN]; omega
/-- Which sectors of two texts differ, of the first k. -/
def difS (x y : List UInt8) : Nat → List Nat
  | 0 => []
  | k + 1 => if x.length / 32 ≤ k ∨ y.length / 32 ≤ k ∨ (x.take ((k + 1) * 32)).drop (k * 32) ≠ (y.take ((k + 1) * 32)).drop (k * 32) then difS x y k ++ [k] else difS x y k
theorem difS_length (x y : List UInt8) : ∀ k, (difS x y k).length ≤ k
  | 0 => Nat.le_refl _
  | k + 1 => by
    have := difS_length x y k
    rw [difS]
    split
    · rw [List.length_append]; simp; omega
    · omega
theorem pad_set {data : List UInt8} {i m : Nat} (hi : i < data.length) (hm : i < m) : ((data.take i).map u8V ++ List.replicate (m - i) (u8V 0)).set (0 + i) (u8V data[i]) = (data.take (i + 1)).map u8V ++ List.replicate (m - (i + 1)) (u8V 0) := by
  have hl : ((data.take i).map u8V).length = i := by simp; omega
  rw [Nat.zero_add, List.set_append_right _ _ (by omega), hl, Nat.sub_self, show m - i = (m - (i + 1)) + 1 from by omega, List.replicate_succ, List.set_cons_zero, List.take_succ_eq_append_getElem hi, List.map_append, List.append_assoc]
  rfl
theorem pad_all {data : List UInt8} {i m : Nat} (hi : i = m ∨ i = data.length) (hm : i ≤ m) (hd : i ≤ data.length) : (data.take i).map u8V ++ List.replicate (m - i) (u8V 0) = (padN m data).map u8V := by
  unfold padN
  rw [List.map_append, List.map_replicate]
  rcases hi with rfl | rfl
  · rw [show i - data.length = 0 from by omega, Nat.sub_self]
  · rw [List.take_of_length_le (Nat.le_refl _), List.take_of_length_le hm]
end Go.Mo
namespace Go.Mo
open Go Go.Sl
theorem cat_bytes (ds : List Sec) : cat ds = (bytesOf ds).flatten := rfl
theorem bytes_len (ds : List Sec) : ds.length = (bytesOf ds).length := by simp [bytesOf]
theorem bytes_mid (ds : List Sec) (i n : Nat) : cat ((ds.drop i).take n) = (((bytesOf ds).drop i).take n).flatten := by
  simp [cat, bytesOf, List.map_take, List.map_drop]
theorem right_of {c lba n : Int} (h : 1 ≤ n ∧ n ≤ c ∧ 0 ≤ lba ∧ lba ≤ c - n) : Right c lba n := h
/-- Pieces of 32 bytes each. -/
def P32 (xs : List (List UInt8)) : Prop := ∀ x ∈ xs, x.length = 32
theorem P32.tail {x : List UInt8} {xs : List (List UInt8)} (h : P32 (x :: xs)) : P32 xs := fun y hy => h y (List.mem_cons_of_mem _ hy)
theorem p32_of {ds : List Sec} (h : ∀ x ∈ ds, x.ok) : P32 (bytesOf ds) := by
  intro x hx
  obtain ⟨d, hd, rfl⟩ := List.mem_map.1 hx
  exact h d hd
theorem flat_length {xs : List (List UInt8)} (h : P32 xs) : xs.flatten.length = xs.length * 32 := by
  induction xs with
  | nil => rfl
  | cons x xs ih =>
    rw [List.flatten_cons, List.length_append, ih h.tail, h x (List.mem_cons_self ..), List.length_cons]
    omega
theorem flat_take {xs : List (List UInt8)} (h : P32 xs) (k : Nat) : xs.flatten.take (k * 32) = (xs.take k).flatten := by
  induction xs generalizing k with
  | nil => simp
  | cons x xs ih =>
    have hx := h x (List.mem_cons_self ..)
    cases k with
    | zero => simp
    | succ k =>
      rw [List.flatten_cons, List.take_succ_cons, List.flatten_cons, List.take_append, List.take_of_length_le (by omega), hx, show (k + 1) * 32 - 32 = k * 32 from by omega, ih h.tail]
theorem flat_drop {xs : List (List UInt8)} (h : P32 xs) (k : Nat) : xs.flatten.drop (k * 32) = (xs.drop k).flatten := by
  induction xs generalizing k with
  | nil => simp
  | cons x xs ih =>
    have hx := h x (List.mem_cons_self ..)
    cases k with
    | zero => simp
    | succ k =>
      rw [List.flatten_cons, List.drop_succ_cons, List.drop_append, List.drop_eq_nil_of_le (by omega), hx, show (k + 1) * 32 - 32 = k * 32 from by omega, ih h.tail, List.nil_append]
theorem p32_drop {xs : List (List UInt8)} (h : P32 xs) (k : Nat) : P32 (xs.drop k) := fun x hx => h x (List.mem_of_mem_drop hx)
theorem read_flat {ds : List Sec} (h : ∀ x ∈ ds, x.ok) (i n : Nat) : ((cat ds).drop (i * 32)).take (n * 32) = cat ((ds.drop i).take n) := by
  rw [bytes_mid, cat_bytes, flat_drop (p32_of h), flat_take (p32_drop (p32_of h) i)]
theorem padN_succ (n : Nat) (data : List UInt8) : padN ((n + 1) * 32) data = padN (n * 32) data ++ pad32 (data.drop (32 * n)) := by
  unfold padN pad32
  apply List.ext_getElem?
  intro j
  simp only [List.getElem?_append, List.length_take, List.length_append, List.getElem?_take, List.getElem?_drop, List.getElem?_replicate, List.length_replicate, List.length_drop]
  repeat' split
  all_goals first
    | rfl
    | (exfalso; omega)
    | (congr 1; omega)
    | (rw [List.getElem?_eq_none (by omega)])
    | (symm; rw [List.getElem?_eq_none (by omega)])
theorem wrK_eq (xs : List (List UInt8)) (i : Nat) (data : List UInt8) : ∀ n, i + n ≤ xs.length → wrK xs i data n = xs.take i ++ (List.range n).map (fun k => pad32 (data.drop (32 * k))) ++ xs.drop (i + n)
  | 0, _ => by simp [wrK]
  | n + 1, h => by
    rw [wrK, wrK_eq xs i data n (by omega)]
    have e1 : (xs.take i ++ (List.range n).map (fun k => pad32 (data.drop (32 * k)))).length = i + n := by simp; omega
    rw [List.set_append_right _ _ (by omega), e1, Nat.sub_self, List.drop_eq_getElem_cons (show i + n < xs.length by omega), List.set_cons_zero, List.range_succ, List.map_append]
    simp [Nat.add_assoc]
theorem flat_pads (data : List UInt8) : ∀ n, ((List.range n).map (fun k => pad32 (data.drop (32 * k)))).flatten = padN (n * 32) data
  | 0 => by simp [padN]
  | n + 1 => by
    rw [List.range_succ, List.map_append, List.flatten_append, flat_pads data n, padN_succ]
    simp
theorem write_flat {ds ds' : List Sec} (h : ∀ x ∈ ds, x.ok) {i n : Nat} (hn : i + n ≤ ds.length) {data : List UInt8} (hb : bytesOf ds' = wrK (bytesOf ds) i data n) :
    cat ds' = (cat ds).take (i * 32) ++ padN (n * 32) data ++ (cat ds).drop ((i + n) * 32) := by
  rw [cat_bytes, hb, wrK_eq _ _ _ _ (by rw [← bytes_len]; exact hn), List.flatten_append, List.flatten_append, flat_pads, cat_bytes, flat_take (p32_of h), flat_drop (p32_of h)]
theorem write_len {ds ds' : List Sec} {i n : Nat} {data : List UInt8} (hb : bytesOf ds' = wrK (bytesOf ds) i data n) : ds'.length = ds.length := by
  rw [bytes_len, hb, wrK_length, ← bytes_len]
theorem cat_z {ds : List Sec} {n : Nat} (hb : bytesOf ds = List.replicate n z32) : cat ds = List.replicate (n * 32) 0 := by
  rw [cat_bytes, hb, z32, List.flatten_replicate_replicate]
theorem cat_cap {ds : List Sec} (h : ∀ x ∈ ds, x.ok) : (cat ds).length / 32 = ds.length := by
  rw [cat_length h]
  omega
theorem chunk {xs : List (List UInt8)} (h : P32 xs) {k : Nat} (hk : k < xs.length) : (xs.flatten.take ((k + 1) * 32)).drop (k * 32) = xs[k] := by
  rw [flat_take h, flat_drop (fun x hx => h x (List.mem_of_mem_take hx)), List.drop_take, Nat.add_sub_cancel_left, List.drop_eq_getElem_cons hk, List.take_succ_cons, List.take_zero]
  exact List.append_nil _
theorem dif_flat {xs ys : List (List UInt8)} (hx : P32 xs) (hy : P32 ys) : ∀ k, difS xs.flatten ys.flatten k = difK xs ys k
  | 0 => rfl
  | k + 1 => by
    have ex : xs.flatten.length / 32 = xs.length := by rw [flat_length hx]; omega
    have ey : ys.flatten.length / 32 = ys.length := by rw [flat_length hy]; omega
    rw [difS, difK, dif_flat hx hy k, ex, ey]
    by_cases h1 : xs.length ≤ k
    · rw [if_pos (.inl h1), if_pos (.inl h1)]
    by_cases h2 : ys.length ≤ k
    · rw [if_pos (.inr (.inl h2)), if_pos (.inr (.inl h2))]
    have e : ((xs.flatten.take ((k + 1) * 32)).drop (k * 32) ≠ (ys.flatten.take ((k + 1) * 32)).drop (k * 32)) ↔ xs[k]? ≠ ys[k]? := by
      rw [chunk hx (by omega), chunk hy (by omega), List.getElem?_eq_getElem (by omega), List.getElem?_eq_getElem (by omega)]
      simp
    simp only [h1, h2, false_or, e]
theorem dif_cat {d1 d2 : List Sec} (h1 : ∀ x ∈ d1, x.ok) (h2 : ∀ x ∈ d2, x.ok) (k : Nat) : difS (cat d1) (cat d2) k = difK (bytesOf d1) (bytesOf d2) k := dif_flat (p32_of h1) (p32_of h2) k
theorem dif_self (xs : List (List UInt8)) : ∀ k, k ≤ xs.length → difK xs xs k = []
  | 0, _ => rfl
  | k + 1, h => by
    rw [difK, if_neg (by simp; omega), dif_self xs k (by omega)]
theorem write_law {ds ds' : List Sec} (h : ∀ x ∈ ds, x.ok) {lba n : Int} {data : List UInt8} (hb : bytesOf ds' = if Right ds.length lba n then wrK (bytesOf ds) lba.toNat data n.toNat else bytesOf ds) :
    (if Right ds.length lba n then (cat ds).take (lba.toNat * 32) ++ padN (n.toNat * 32) data ++ (cat ds).drop ((lba.toNat + n.toNat) * 32) else cat ds) = cat ds' ∧ ds'.length = ds.length := by
  by_cases hR : Right ds.length lba n
  · rw [if_pos hR] at hb ⊢
    have h2 := hR
    unfold Right at h2
    exact ⟨(write_flat h (by omega) hb).symm, write_len hb⟩
  · rw [if_neg hR] at hb ⊢
    exact ⟨by rw [cat_bytes, cat_bytes, hb], by rw [bytes_len, hb, ← bytes_len]⟩
theorem cat_of {d1 d2 : List Sec} (h : bytesOf d2 = bytesOf d1) : cat d1 = cat d2 := by rw [cat_bytes, cat_bytes, h]
theorem vget {D : List Nat} {rest : List Value} {j : Nat} (h : j < D.length) : (D.map intV ++ rest)[0 + j]? = some (intV D[j]) := by
  rw [Nat.zero_add, List.getElem?_append_left (by simpa using h)]
  simp [h]
/-- A write that comes to pass only where it may. -/
def wrI (xs : List (List UInt8)) (c : Nat) (lba n : Int) (data : List UInt8) : List (List UInt8) := if Right c lba n then wrK xs lba.toNat data n.toNat else xs
theorem wrI_length (xs : List (List UInt8)) (c : Nat) (lba n : Int) (data : List UInt8) : (wrI xs c lba n data).length = xs.length := by
  unfold wrI
  split
  · exact wrK_length _ _ _ _
  · rfl
theorem wrK_get (xs : List (List UInt8)) (i : Nat) (data : List UInt8) (j : Nat) : ∀ n, i + n ≤ xs.length → (wrK xs i data n)[j]? = if i ≤ j ∧ j < i + n then some (pad32 (data.drop (32 * (j - i)))) else xs[j]?
  | 0, _ => by rw [wrK, if_neg (by omega)]
  | n + 1, h => by
    rw [wrK, List.getElem?_set, wrK_get xs i data j n (by omega), wrK_length]
    by_cases e : i + n = j
    · rw [if_pos e, if_pos (by omega), if_pos (by omega), show j - i = n from by omega]
    · rw [if_neg e]
      by_cases g : i ≤ j ∧ j < i + n
      · rw [if_pos g, if_pos (by omega)]
      · rw [if_neg g, if_neg (by omega)]
theorem wrK_comm {xs : List (List UInt8)} {i n j m : Nat} {a b : List UInt8} (hi : i + n ≤ xs.length) (hj : j + m ≤ xs.length) (h : i + n ≤ j ∨ j + m ≤ i) : wrK (wrK xs i a n) j b m = wrK (wrK xs j b m) i a n := by
  apply List.ext_getElem?
  intro k
  rw [wrK_get _ _ _ _ _ (by rw [wrK_length]; exact hj), wrK_get _ _ _ _ _ hi, wrK_get _ _ _ _ _ (by rw [wrK_length]; exact hi), wrK_get _ _ _ _ _ hj]
  by_cases g1 : j ≤ k ∧ k < j + m
  · rw [if_pos g1, if_neg (by omega), if_pos g1]
  · rw [if_neg g1, if_neg g1]
theorem apart_law {xs : List (List UInt8)} {xl xn yl yn : Int} {a b : List UInt8} (hc : xs.length ≤ 512) (h : ¬ (xl < IntKind.i64.wrap (yl + yn) ∧ yl < IntKind.i64.wrap (xl + xn))) :
    wrI (wrI xs xs.length xl xn a) xs.length yl yn b = wrI (wrI xs xs.length yl yn b) xs.length xl xn a := by
  unfold wrI
  by_cases h1 : Right xs.length xl xn
  · by_cases h2 : Right xs.length yl yn
    · simp only [if_pos h1, if_pos h2]
      unfold Right at h1 h2
      rw [wrap64_in (by omega) (by omega), wrap64_in (by omega) (by omega)] at h
      exact wrK_comm (by omega) (by omega) (by omega)
    · simp only [if_pos h1, if_neg h2]
  · simp only [if_neg h1]
/-- What was written reads back. -/
theorem read_back {xs : List (List UInt8)} {lba n : Int} {data : List UInt8} (h : Right xs.length lba n) : (((wrI xs xs.length lba n data).drop lba.toNat).take n.toNat).flatten = padN (n.toNat * 32) data := by
  unfold wrI
  rw [if_pos h]
  unfold Right at h
  have hl : lba.toNat + n.toNat ≤ xs.length := by omega
  rw [wrK_eq _ _ _ _ hl, List.append_assoc, List.drop_append, List.drop_eq_nil_of_le (by simp; omega), List.nil_append, List.length_take, Nat.min_eq_left (by omega), Nat.sub_self, List.drop_zero, List.take_append, List.take_of_length_le (by simp), List.length_map, List.length_range, Nat.sub_self, List.take_zero, List.append_nil, flat_pads]
theorem pad_nil (m : Nat) : padN m [] = List.replicate m 0 := by simp [padN]
theorem pad_take {m k : Nat} {l : List UInt8} (h1 : k ≤ m) (h2 : k ≤ l.length) : (padN m l).take k = l.take k := by
  unfold padN
  rw [List.take_append_of_le_length (by simp; omega), List.take_take, Nat.min_eq_left h1]
/-- A script's step. -/
structure Cmd where
  op : Int
  lba : Int
  n : Int
  data : List UInt8
def Cmd.cells (c : Cmd) : List Value := [.int .i64 c.op, .int .i64 c.lba, .int .i64 c.n, strV c.data]
end Go.Mo
