/-
  Sectors, in plain words: no program in sight.
-/
import Derived.Test.YticfabhcfdmbjaaSl9
namespace Go.Mo
open Go Go.Sl

/-- Is a range right, of so many sectors? -/
def Right (c lba n : Int) : Prop := 1 ≤ n ∧ n ≤ c ∧ 0 ≤ lba ∧ lba ≤ c - n
instance (c lba n : Int) : Decidable (Right c lba n) := by unfold Right; infer_instance
/-- A sector in memory: its block, its spare room, its bytes. -/
structure Sec where
  b : Nat
  cap : Nat
  s : List UInt8
  rest : List Value
def Sec.hdr (d : Sec) : Value := slc d.b 0 32 d.cap
def Sec.own (T : Nat) (d : Sec) : Assn := row d.b T (d.s.map u8V ++ d.rest)
def Sec.ok (d : Sec) : Prop := d.s.length = 32
abbrev bytesOf (ds : List Sec) : List (List UInt8) := ds.map (·.s)
/-- 32 bytes: the first of l, noughts behind. -/
def pad32 (l : List UInt8) : List UInt8 := l.take 32 ++ List.replicate (32 - l.length) 0
theorem pad32_length (l : List UInt8) : (pad32 l).length = 32 := by simp [pad32]; omega
/-- A sector of noughts. -/
def z32 : List UInt8 := List.replicate 32 0
/-- k sectors written from lba on. -/
def wrK (secs : List (List UInt8)) (lba : Nat) (data : List UInt8) : Nat → List (List UInt8)
  | 0 => secs
  | k + 1 => (wrK secs lba data k).set (lba + k) (pad32 (data.drop (32 * k)))
theorem wrK_length (secs : List (List UInt8)) (lba : Nat) (data : List UInt8) : ∀ k, (wrK secs lba data k).length = secs.length
  | 0 => rfl
  | k + 1 => by rw [wrK, List.length_set, wrK_length]
theorem lay_pad (l : List UInt8) : lay (zeros 32 [.int .u8 0]) 0 ((l.map u8V).take (min l.length 32 * 1)) = (pad32 l).map u8V := by
  have h32 : (zeros 32 [.int .u8 0]).length = 32 := by rw [zeros_length]; rfl
  have hm : min l.length 32 * 1 = min l.length 32 := by rw [Nat.mul_one]
  rw [hm, lay_eq _ _ _ (by rw [h32, List.length_take]; simp; omega)]
  have ez : zeros 32 [.int .u8 0] = List.replicate 32 (Value.int .u8 0) := rfl
  rw [ez]
  simp only [List.take_zero, List.nil_append, List.length_take, List.length_map, List.drop_replicate, pad32, List.map_append, List.map_take, List.map_replicate]
  by_cases h : l.length ≤ 32
  · rw [List.take_of_length_le (by simp; omega), List.take_of_length_le (by simp; omega)]
    congr 2
    omega
  · rw [show min l.length 32 = 32 from by omega]
    congr 2
    omega
/-- The array's resources. -/
def arrR (TA TS TB : Nat) (a p cap : Nat) (ds : List Sec) (rest : List Value) : List Assn := [row a TA [slc p 0 ds.length cap], row p TS (ds.map Sec.hdr ++ rest), sep (ds.map (Sec.own TB))]
theorem set_hdr {ds : List Sec} {rest : List Value} {j : Nat} {d : Sec} (hj : j < ds.length) : (ds.map Sec.hdr ++ rest).set j d.hdr = (ds.set j d).map Sec.hdr ++ rest := by
  rw [List.set_append_left _ _ (by simpa using hj), List.map_set]
theorem own_set {TB : Nat} {ds : List Sec} {j : Nat} {d : Sec} {R : List Assn} (hj : j < ds.length) : Ent (sep (d.own TB :: sep (ds.map (Sec.own TB)) :: R)) (sep (sep ((ds.set j d).map (Sec.own TB)) :: R)) := by
  have hn : nth (ds.map (Sec.own TB)) j = some (Sec.own TB ds[j]) := by rw [nth_map, nth_get hj]; rfl
  have e : setN (ds.map (Sec.own TB)) j (d.own TB) = (ds.set j d).map (Sec.own TB) := by rw [setN_eq, List.map_set]
  rw [← e]
  refine (Ent.cons (Ent.refl _) (Ent.bor hn)).trans ?_
  refine (Ent.cons (Ent.refl _) (Ent.drop _ _)).trans ?_
  exact Ent.unbor hn
theorem own_push {TB : Nat} {ds : List Sec} {d : Sec} {R : List Assn} : Ent (sep (d.own TB :: sep (ds.map (Sec.own TB)) :: R)) (sep (sep ((ds ++ [d]).map (Sec.own TB)) :: R)) := by
  refine (Ent.cons (Ent.refl _) (Ent.flat _ _)).trans ?_
  have : (ds ++ [d]).map (Sec.own TB) = ds.map (Sec.own TB) ++ [d.own TB] := by simp
  rw [this]
  refine (Ent.perm (L := d.own TB :: (ds.map (Sec.own TB) ++ R)) (M := ds.map (Sec.own TB) ++ [d.own TB] ++ R) ?_).trans (Ent.unflat _ _)
  have := (List.perm_append_comm (l₁ := [d.own TB]) (l₂ := ds.map (Sec.own TB))).append_right R
  simpa using this
theorem bytes_set (ds : List Sec) (j : Nat) (d : Sec) : bytesOf (ds.set j d) = (bytesOf ds).set j d.s := by simp [bytesOf, List.map_set]
theorem ok_set {ds : List Sec} {j : Nat} {d : Sec} (h : ∀ x ∈ ds, x.ok) (hd : d.ok) : ∀ x ∈ ds.set j d, x.ok := fun x hx => by
  rcases List.mem_or_eq_of_mem_set hx with h1 | rfl
  · exact h x h1
  · exact hd
/-- All bytes, one behind the other. -/
def cat (ds : List Sec) : List UInt8 := (ds.map (·.s)).flatten
theorem cat_length {ds : List Sec} (h : ∀ x ∈ ds, x.ok) : (cat ds).length = 32 * ds.length := by
  unfold cat
  induction ds with
  | nil => rfl
  | cons d ds ih =>
    simp only [List.map_cons, List.flatten_cons, List.length_append, List.length_cons]
    rw [ih (fun x hx => h x (List.mem_cons_of_mem _ hx)), show d.s.length = 32 from h d (List.mem_cons_self ..)]
    omega
theorem cat_take {ds : List Sec} {k : Nat} (h : k < ds.length) : cat (ds.take (k + 1)) = cat (ds.take k) ++ ds[k].s := by
  unfold cat
  rw [List.take_succ_eq_append_getElem h, List.map_append, List.flatten_append]
  simp only [List.map_cons, List.map_nil, List.flatten_cons, List.flatten_nil, List.append_nil]
theorem Sec.src {P : Program} {Hs : List Assn} {TB i : Nat} {d : Sec} (hn : nth Hs i = some (Sec.own TB d)) (hok : d.ok) : Src P Hs d.hdr 32 1 (d.s.map u8V) := by
  unfold Sec.ok at hok
  refine src_row (cs := d.s.map u8V ++ d.rest) hn (by simp [hok]) ?_
  rw [List.drop_zero, List.take_append_of_le_length (by simp [hok]), List.take_of_length_le (by simp [hok])]
theorem own_nth {TB : Nat} {ds : List Sec} {j : Nat} (hj : j < ds.length) : nth (ds.map (Sec.own TB)) j = some (Sec.own TB ds[j]) := by rw [nth_map, nth_get hj]; rfl
theorem ok_get {ds : List Sec} (h : ∀ x ∈ ds, x.ok) {j : Nat} (hj : j < ds.length) : ds[j].ok := h _ (List.getElem_mem hj)
theorem own_back {TB : Nat} {ds : List Sec} {j : Nat} {R : List Assn} (hj : j < ds.length) : Ent (sep (Sec.own TB ds[j] :: sep (delN (ds.map (Sec.own TB)) j) :: R)) (sep (sep (ds.map (Sec.own TB)) :: R)) := by
  have := Ent.unbor (R := R) (B := Sec.own TB ds[j]) (own_nth (TB := TB) hj)
  rwa [setN_same (own_nth hj)] at this
theorem Sec.srcIn {P : Program} {Hs : List Assn} {TB i j : Nat} {ds : List Sec} (hn : nth Hs i = some (sep (ds.map (Sec.own TB)))) (hok : ∀ x ∈ ds, x.ok) (hj : j < ds.length) : Src P Hs ds[j].hdr 32 1 (ds[j].s.map u8V) :=
  Src.ent (Ent.inside hn (own_nth hj)) (Sec.src (i := 0) rfl (ok_get hok hj))
theorem own_mid {TB : Nat} {A B C : List Sec} {R : List Assn} : Ent (sep (sep ((A ++ B ++ C).map (Sec.own TB)) :: R)) (sep (sep (B.map (Sec.own TB)) :: sep ((A ++ C).map (Sec.own TB)) :: R)) := by
  refine (Ent.flat _ _).trans (Ent.trans (Ent.perm ?_) ((Ent.unflat _ _).trans (Ent.cons (Ent.refl _) (Ent.unflat _ _))))
  simp only [List.map_append, List.append_assoc]
  rw [← List.append_assoc, ← List.append_assoc (List.map (Sec.own TB) B)]
  exact List.Perm.append_right _ List.perm_append_comm
theorem own_unmid {TB : Nat} {A B C : List Sec} {R : List Assn} : Ent (sep (sep (B.map (Sec.own TB)) :: sep ((A ++ C).map (Sec.own TB)) :: R)) (sep (sep ((A ++ B ++ C).map (Sec.own TB)) :: R)) := by
  refine Ent.trans ((Ent.cons (Ent.refl _) (Ent.flat _ _)).trans (Ent.flat _ _)) (Ent.trans (Ent.perm ?_) (Ent.unflat _ _))
  simp only [List.map_append, List.append_assoc]
  rw [← List.append_assoc, ← List.append_assoc (List.map (Sec.own TB) A)]
  exact List.Perm.append_right _ List.perm_append_comm
theorem mid_eq (ds : List Sec) (i n : Nat) : ds = ds.take i ++ (ds.drop i).take n ++ ds.drop (i + n) := by
  rw [List.append_assoc, ← List.drop_drop, List.take_append_drop, List.take_append_drop]
theorem hdr_get {ds : List Sec} {rest : List Value} {k : Nat} (h : k < ds.length) : (ds.map Sec.hdr ++ rest)[0 + k]? = some ds[k].hdr := by
  rw [Nat.zero_add, List.getElem?_append_left (by simpa using h)]
  simp [h]
/-- Which sectors differ, of the first k. -/
def difK (x y : List (List UInt8)) : Nat → List Nat
  | 0 => []
  | k + 1 => if x.length ≤ k ∨ y.length ≤ k ∨ x[k]? ≠ y[k]? then difK x y k ++ [k] else difK x y k
theorem difK_length (x y : List (List UInt8)) : ∀ k, (difK x y k).length ≤ k
  | 0 => Nat.le_refl _
  | k + 1 => by
    have := difK_length x y k
    rw [difK]
    split
    · rw [List.length_append]; simp; omega
    · omega
/-- m bytes: the first of l, noughts behind. -/
def padN (m : Nat) (l : List UInt8) : List UInt8 := l.take m ++ List.replicate (m - l.length) 0
theorem padN_length (m : Nat) (l : List UInt8) : (padN m l).length = m := by simp [padN]; omega
/-- Which sectors of two texts differ, of the first k. -/
def difS (x y : List UInt8) : Nat → List Nat
  | 0 => []
  | k + 1 => if x.length / 32 ≤ k ∨ y.length / 32 ≤ k ∨ (x.take ((k + 1) * 32)).drop (k * 32) ≠ (y.take ((k + 1) * 32)).drop (k * 32) then difS x y k ++ [k] else difS x y k
theorem difS_length (x y : List UInt8) : ∀ k, (difS x y k).length ≤ k
  | 0 => Nat.le_refl _
  | k + 1 => by
    have := difS_length x y k
    rw [difS]
    split
    · rw [List.length_append]; simp; omega
    · omega
theorem pad_set {data : List UInt8} {i m : Nat} (hi : i < data.length) (hm : i < m) : ((data.take i).map u8V ++ List.replicate (m - i) (u8V 0)).set (0 + i) (u8V data[i]) = (data.take (i + 1)).map u8V ++ List.replicate (m - (i + 1)) (u8V 0) := by
  have hl : ((data.take i).map u8V).length = i := by simp; omega
  rw [Nat.zero_add, List.set_append_right _ _ (by omega), hl, Nat.sub_self, show m - i = (m - (i + 1)) + 1 from by omega, List.replicate_succ, List.set_cons_zero, List.take_succ_eq_append_getElem hi, List.map_append, List.append_assoc]
  rfl
theorem pad_all {data : List UInt8} {i m : Nat} (hi : i = m ∨ i = data.length) (hm : i ≤ m) (hd : i ≤ data.length) : (data.take i).map u8V ++ List.replicate (m - i) (u8V 0) = (padN m data).map u8V := by
  unfold padN
  rw [List.map_append, List.map_replicate]
  rcases hi with rfl | rfl
  · rw [show i - data.length = 0 from by omega, Nat.sub_self]
  · rw [List.take_of_length_le (Nat.le_refl _), List.take_of_length_le hm]
end Go.Mo
