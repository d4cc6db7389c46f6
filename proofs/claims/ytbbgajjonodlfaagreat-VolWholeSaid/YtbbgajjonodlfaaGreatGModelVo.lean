/-
  Volumes, in plain words: no program in sight.
-/
import Derived.Test.YtbbgajjonodlfaaGreatGModelP
import Derived.Test.YtbbgajjonodlfaaGreatGModelU
import Derived.Test.YtbbgajjonodlfaaGreatGEvCrc
import Derived.Test.YtbbgajjonodlfaaGreatGSl26
set_option linter.unusedVariables false
set_option linter.unusedSimpArgs false
namespace Go.Mo
open Go Go.Sl Go.Evl
/-- A volume's entry; of a free one all is zero. -/
structure VE where
  name : List UInt8
  first : Nat
  len : Nat
def VE.zero : VE := ⟨[], 0, 0⟩
def VE.cells (x : VE) : List Value := [strV x.name, intV x.first, intV x.len]
/-- May a name be? -/
noncomputable def gb (l : List UInt8) : Bool := @decide (GoodQ l true) (Classical.propDecidable _)
theorem gb_iff {l : List UInt8} : gb l = true ↔ GoodQ l true := by
  unfold gb
  exact @decide_eq_true_iff _ (Classical.propDecidable _)
theorem gb_eq {l : List UInt8} {r : Bool} (h : GoodQ l r) : r = gb l := by
  cases r with
  | true => exact (gb_iff.2 h).symm
  | false =>
    cases hg : gb l with
    | false => rfl
    | true => cases h.unique (gb_iff.1 hg)
theorem gb_len {l : List UInt8} (h : gb l = true) : 1 ≤ l.length ∧ l.length ≤ 16 := by
  rcases gb_iff.1 h with ⟨_, h⟩ | ⟨_, h⟩
  · cases h
  · exact of_decide_eq_true h.symm
def VE.ok (c : Nat) (x : VE) : Prop := gb x.name = true ∧ 1 ≤ x.len ∧ 8 ≤ x.first ∧ x.first + x.len ≤ c
/-- Have two one name, or share a sector? -/
def VE.meets (x y : VE) : Prop := x.name = y.name ∨ (x.first < y.first + y.len ∧ y.first < x.first + x.len)
instance (x y : VE) : Decidable (x.meets y) := by unfold VE.meets; infer_instance
theorem VE.meets_comm {x y : VE} (h : x.meets y) : y.meets x := by
  rcases h with h | ⟨h1, h2⟩
  · exact .inl h.symm
  · exact .inr ⟨h2, h1⟩
/-- What holds of a store's entries. -/
structure VInv (c : Nat) (es : List VE) : Prop where
  len : es.length = 8
  each : ∀ x ∈ es, x = VE.zero ∨ x.ok c
  apart : ∀ i j (hi : i < es.length) (hj : j < es.length), i ≠ j → 0 < es[i].len → 0 < es[j].len → ¬ VE.meets es[i] es[j]
theorem VInv.get {c : Nat} {es : List VE} (h : VInv c es) {i : Nat} (hi : i < es.length) : es[i] = VE.zero ∨ es[i].ok c := h.each _ (List.getElem_mem hi)
theorem VInv.bound {c : Nat} {es : List VE} (h : VInv c es) {i : Nat} (hi : i < es.length) : es[i].first + es[i].len ≤ c := by
  rcases h.get hi with e | e
  · rw [e]; exact Nat.zero_le _
  · exact e.2.2.2
theorem VInv.name {c : Nat} {es : List VE} (h : VInv c es) {i : Nat} (hi : i < es.length) : es[i].name.length ≤ 16 := by
  rcases h.get hi with e | e
  · rw [e]; exact Nat.zero_le _
  · exact (gb_len e.1).2
theorem VInv.okOf {c : Nat} {es : List VE} (h : VInv c es) {i : Nat} (hi : i < es.length) (hl : 0 < es[i].len) : es[i].ok c := by
  rcases h.get hi with e | e
  · rw [e] at hl; exact absurd hl (Nat.lt_irrefl _)
  · exact e
theorem VInv.zero (c : Nat) : VInv c (List.replicate 8 VE.zero) where
  len := rfl
  each x hx := .inl (List.eq_of_mem_replicate hx)
  apart i j hi hj _ h _ := by
    rw [List.getElem_replicate] at h
    exact absurd h (Nat.lt_irrefl _)
theorem VInv.set {c : Nat} {es : List VE} (h : VInv c es) {i : Nat} {x : VE} (hx : x = VE.zero ∨ (x.ok c ∧ ∀ j (hj : j < es.length), j ≠ i → 0 < es[j].len → ¬ x.meets es[j])) : VInv c (es.set i x) where
  len := by rw [List.length_set, h.len]
  each y hy := by
    rcases List.mem_or_eq_of_mem_set hy with h1 | rfl
    · exact h.each y h1
    · exact hx.imp id (·.1)
  apart a b ha hb hab h1 h2 := by
    simp only [List.length_set] at ha hb
    rw [List.getElem_set] at h1 h2 ⊢
    rw [List.getElem_set]
    by_cases ea : i = a
    · rw [if_pos ea] at h1 ⊢
      rw [if_neg (by omega)] at h2 ⊢
      rcases hx with rfl | hx
      · exact absurd h1 (Nat.lt_irrefl _)
      · exact hx.2 b hb (by omega) h2
    · rw [if_neg ea] at h1 ⊢
      by_cases eb : i = b
      · rw [if_pos eb] at h2 ⊢
        rcases hx with rfl | hx
        · exact absurd h2 (Nat.lt_irrefl _)
        · exact fun hm => hx.2 a ha (by omega) h1 (VE.meets_comm hm)
      · rw [if_neg eb] at h2 ⊢
        exact h.apart a b ha hb hab h1 h2
def geE (es : List VE) (i : Nat) : VE := es.getD i VE.zero
theorem geE_get {es : List VE} {i : Nat} (h : i < es.length) : geE es i = es[i] := by
  unfold geE
  rw [List.getD_eq_getElem?_getD, List.getElem?_eq_getElem h]
  rfl
/-- The volume of a name. -/
def findE (es : List VE) (name : List UInt8) : Option Nat := es.findIdx? fun x => decide (0 < x.len ∧ x.name = name)
theorem findE_some {es : List VE} {name : List UInt8} {i : Nat} (h : i < es.length) (hp : 0 < es[i].len ∧ es[i].name = name) (hb : ∀ k (hk : k < es.length), k < i → ¬ (0 < es[k].len ∧ es[k].name = name)) : findE es name = some i := by
  unfold findE
  rw [List.findIdx?_eq_some_iff_getElem]
  exact ⟨h, decide_eq_true hp, fun j hj => by simpa using hb j (by omega) hj⟩
theorem findE_none {es : List VE} {name : List UInt8} (hb : ∀ k (hk : k < es.length), ¬ (0 < es[k].len ∧ es[k].name = name)) : findE es name = none := by
  unfold findE
  rw [List.findIdx?_eq_none_iff]
  intro x hx
  obtain ⟨i, hi, rfl⟩ := List.getElem_of_mem hx
  exact decide_eq_false (hb i hi)
theorem findE_is {es : List VE} {name : List UInt8} {i : Nat} (h : findE es name = some i) : ∃ hi : i < es.length, 0 < es[i].len ∧ es[i].name = name := by
  unfold findE at h
  rw [List.findIdx?_eq_some_iff_getElem] at h
  obtain ⟨hi, h1, _⟩ := h
  exact ⟨hi, of_decide_eq_true h1⟩
theorem findE_not {es : List VE} {name : List UInt8} (h : findE es name = none) : ∀ k (hk : k < es.length), ¬ (0 < es[k].len ∧ es[k].name = name) := by
  unfold findE at h
  rw [List.findIdx?_eq_none_iff] at h
  intro k hk
  have := h _ (List.getElem_mem hk)
  exact of_decide_eq_false this
/-- The first free entry. -/
def freeI (es : List VE) : Option Nat := es.findIdx? fun x => decide (x.len = 0)
theorem freeI_some {es : List VE} {i : Nat} (h : i < es.length) (hp : es[i].len = 0) (hb : ∀ k (hk : k < es.length), k < i → es[k].len ≠ 0) : freeI es = some i := by
  unfold freeI
  rw [List.findIdx?_eq_some_iff_getElem]
  exact ⟨h, decide_eq_true hp, fun j hj => by simpa using hb j (by omega) hj⟩
theorem freeI_none {es : List VE} (hb : ∀ k (hk : k < es.length), es[k].len ≠ 0) : freeI es = none := by
  unfold freeI
  rw [List.findIdx?_eq_none_iff]
  intro x hx
  obtain ⟨i, hi, rfl⟩ := List.getElem_of_mem hx
  exact decide_eq_false (hb i hi)
theorem freeI_is {es : List VE} {i : Nat} (h : freeI es = some i) : ∃ hi : i < es.length, es[i].len = 0 := by
  unfold freeI at h
  rw [List.findIdx?_eq_some_iff_getElem] at h
  obtain ⟨hi, h1, _⟩ := h
  exact ⟨hi, of_decide_eq_true h1⟩
/-- Is a place of n sectors taken by a volume? -/
def Blk (es : List VE) (n p : Nat) : Prop := ∃ i, ∃ h : i < es.length, 0 < es[i].len ∧ p < es[i].first + es[i].len ∧ es[i].first < p + n
/-- The first place of n sectors that no volume has. -/
def FirstE (es : List VE) (n p : Nat) : Prop := 8 ≤ p ∧ ¬ Blk es n p ∧ ∀ k, 8 ≤ k → k < p → Blk es n k
theorem FirstE.unique {es : List VE} {n p q : Nat} (h : FirstE es n p) (g : FirstE es n q) : p = q := by
  rcases Nat.lt_trichotomy p q with h1 | h1 | h1
  · exact absurd (g.2.2 p h.1 h1) h.2.1
  · exact h1
  · exact absurd (h.2.2 q g.1 h1) g.2.1
open Classical in
noncomputable def roomAt (es : List VE) (n : Nat) : Nat := if h : ∃ p, FirstE es n p then Classical.choose h else 0
theorem FirstE.room {es : List VE} {n p : Nat} (h : FirstE es n p) : roomAt es n = p := by
  unfold roomAt
  rw [dif_pos ⟨p, h⟩]
  exact (Classical.choose_spec ⟨p, h⟩ : FirstE es n _).unique h
/-- A step of the search: what is taken by one entry from p on is taken for all that is ahead of its end. -/
theorem blk_step {es : List VE} {n p i : Nat} (h : ∀ k, 8 ≤ k → k < p → Blk es n k) (hi : i < es.length) (hl : 0 < es[i].len) (h1 : p < es[i].first + es[i].len) (h2 : es[i].first < p + n) : ∀ k, 8 ≤ k → k < es[i].first + es[i].len → Blk es n k := fun k hk hlt => by
  by_cases e : k < p
  · exact h k hk e
  · exact ⟨i, hi, hl, hlt, by omega⟩
/-- All volumes' sectors. -/
def sumL (es : List VE) : Nat := (es.map (·.len)).sum
def volsE (es : List VE) : List VE := es.filter fun x => decide (0 < x.len)
/-- What a store answers where a range of a volume is: the place, the error. -/
def plcE (es : List VE) (name : List UInt8) (at_ n : Int) : Int × Int := match findE es name with
  | none => (0, 4)
  | some i => if Right ((geE es i).len : Nat) at_ n then ((geE es i).first + at_, 0) else (0, 1)
/-- A number's n low bytes. -/
def leN (v n : Nat) : List UInt8 := (List.range n).map fun i => UInt8.ofNat (v >>> (8 * i))
theorem leN_length (v n : Nat) : (leN v n).length = n := by simp [leN]
theorem leN_succ (v n : Nat) : leN v (n + 1) = leN v n ++ [UInt8.ofNat (v >>> (8 * n))] := by simp [leN, List.range_succ]
def hdT (x : VE) : List UInt8 := [86, UInt8.ofNat x.name.length] ++ padN 16 x.name ++ leN x.first 2 ++ leN x.len 2
/-- An entry's sector. -/
def laidT (x : VE) : List UInt8 := hdT x ++ leN (crcOf 0 (hdT x)) 4 ++ List.replicate 6 0
theorem hdT_length (x : VE) : (hdT x).length = 22 := by simp [hdT, leN_length, padN_length]
theorem laidT_length (x : VE) : (laidT x).length = 32 := by simp [laidT, hdT_length, leN_length]
/-- A number told by its bytes, the low ones first. -/
def leV : List UInt8 → Nat
  | [] => 0
  | x :: l => x.toNat + 256 * leV l
theorem leV_lt : ∀ l : List UInt8, leV l < 256 ^ l.length
  | [] => Nat.one_pos
  | x :: l => by
    have h1 := x.toNat_lt
    have h2 := leV_lt l
    rw [leV, List.length_cons, Nat.pow_succ]
    omega
theorem leV_snoc : ∀ (l : List UInt8) (x : UInt8), leV (l ++ [x]) = leV l + 256 ^ l.length * x.toNat
  | [], x => by simp [leV]
  | y :: l, x => by
    rw [List.cons_append, leV, leV, leV_snoc l x, List.length_cons, Nat.pow_succ, Nat.mul_add, Nat.add_assoc, ← Nat.mul_assoc, Nat.mul_comm 256 (256 ^ l.length)]
/-- The bytes of a sector from i on. -/
def piece (b : List UInt8) (i n : Nat) : List UInt8 := (b.take (i + n)).drop i
/-- What a sector says. -/
def saysT (b : List UInt8) : VE := ⟨piece b 2 (b.getD 1 0).toNat, leV (piece b 18 2), leV (piece b 20 2)⟩
open Classical in
/-- The entry that a sector is; of what is none all is zero. -/
noncomputable def rdE (c : Nat) (b : List UInt8) : VE := if (b.getD 1 0).toNat ≤ 16 ∧ b = laidT (saysT b) ∧ (saysT b).ok c then saysT b else VE.zero
theorem rdE_ok (c : Nat) (b : List UInt8) : rdE c b = VE.zero ∨ (rdE c b).ok c := by
  unfold rdE
  split
  · rename_i h; exact .inr h.2.2
  · exact .inl rfl
def secT (t : List UInt8) (k : Nat) : List UInt8 := (t.take ((k + 1) * 32)).drop (k * 32)
open Classical in
/-- The entries of a disk, the first k of them. -/
noncomputable def opE (c : Nat) (t : List UInt8) : Nat → List VE
  | 0 => []
  | k + 1 => if ∃ y ∈ volsE (opE c t k), (rdE c (secT t k)).meets y then opE c t k ++ [VE.zero] else opE c t k ++ [rdE c (secT t k)]
theorem opE_length (c : Nat) (t : List UInt8) : ∀ k, (opE c t k).length = k
  | 0 => rfl
  | k + 1 => by
    rw [opE]
    split <;> simp [opE_length c t k]
end Go.Mo
namespace Go.Mo
open Go Go.Sl Go.Evl
open Classical in
noncomputable def creV (c : Nat) (es : List VE) (t name : List UInt8) (n : Int) : Int × List VE × List UInt8 :=
  if gb name = true ∧ 1 ≤ n ∧ n ≤ 512 then
    match findE es name with
    | some _ => (8, es, t)
    | none => match freeI es with
      | none => (5, es, t)
      | some i => if roomAt es n.toNat + n.toNat ≤ c then (0, es.set i ⟨name, roomAt es n.toNat, n.toNat⟩, wrT (wrT t (roomAt es n.toNat) n []) i 1 (laidT ⟨name, roomAt es n.toNat, n.toNat⟩)) else (5, es, t)
  else (1, es, t)
def delV (es : List VE) (t name : List UInt8) : Int × List VE × List UInt8 := match findE es name with
  | none => (4, es, t)
  | some i => (0, es.set i VE.zero, wrT t i 1 [])
/-- A volume, and a name that another one is to have. -/
noncomputable def othV (es : List VE) (name to_ : List UInt8) : Nat × Int := match findE es name with
  | none => (0, 4)
  | some i => if gb to_ = true then (match findE es to_ with | some _ => (0, 8) | none => (i, 0)) else (0, 1)
noncomputable def renV (es : List VE) (t name to_ : List UInt8) : Int × List VE × List UInt8 :=
  if (othV es name to_).2 = 0 then (0, es.set (othV es name to_).1 ⟨to_, (geE es (othV es name to_).1).first, (geE es (othV es name to_).1).len⟩, wrT t (othV es name to_).1 1 (laidT ⟨to_, (geE es (othV es name to_).1).first, (geE es (othV es name to_).1).len⟩))
  else ((othV es name to_).2, es, t)
def reaV (es : List VE) (t name : List UInt8) (at_ n : Int) : List UInt8 × Int := if (plcE es name at_ n).2 = 0 then (rdT t (plcE es name at_ n).1 n, 0) else ([], (plcE es name at_ n).2)
def wriV (es : List VE) (t name : List UInt8) (at_ n : Int) (data : List UInt8) : Int × List UInt8 := if (plcE es name at_ n).2 = 0 then (0, wrT t (plcE es name at_ n).1 n data) else ((plcE es name at_ n).2, t)

theorem set_pad {es : List VE} {k : Nat} (hk : k < 8) (hl : es.length = k) (x : VE) : es ++ [x] ++ List.replicate (8 - (k + 1)) VE.zero = (es ++ List.replicate (8 - k) VE.zero).set k x := by
  rw [List.set_append_right _ _ (by omega), hl, Nat.sub_self, show 8 - k = (8 - (k + 1)) + 1 from by omega, List.replicate_succ, List.set_cons_zero, List.append_assoc]
  rfl
theorem vols_pad (es : List VE) (n : Nat) : volsE (es ++ List.replicate n VE.zero) = volsE es := by
  unfold volsE
  rw [List.filter_append, List.filter_replicate]
  simp [VE.zero]
theorem op_inv (c : Nat) (t : List UInt8) : ∀ k, k ≤ 8 → VInv c (opE c t k ++ List.replicate (8 - k) VE.zero)
  | 0, _ => VInv.zero c
  | k + 1, h => by
    have ih := op_inv c t k (by omega)
    have hl := opE_length c t k
    rw [opE]
    split
    · rw [set_pad (by omega) hl]
      exact ih.set (.inl rfl)
    · rename_i hm
      rw [set_pad (by omega) hl]
      refine ih.set ?_
      rcases rdE_ok c (secT t k) with e | e
      · exact .inl e
      refine .inr ⟨e, fun j hj hne hlen hmt => hm ⟨_, ?_, hmt⟩⟩
      have hv := vols_pad (opE c t k) (8 - k)
      rw [← hv]
      exact List.mem_filter.2 ⟨List.getElem_mem hj, decide_eq_true hlen⟩
theorem room_apart {es : List VE} {n : Nat} {p : Nat} (h : FirstE es n p) {j : Nat} (hj : j < es.length) (hl : 0 < es[j].len) : ¬ (p < es[j].first + es[j].len ∧ es[j].first < p + n) := fun hm => h.2.1 ⟨j, hj, hl, hm.1, hm.2⟩
/-- A new volume keeps the order. -/
theorem new_inv {c : Nat} {es : List VE} (h : VInv c es) {name : List UInt8} {n i : Nat} (hg : gb name = true) (hn : 1 ≤ n) (hf : findE es name = none) (hF : FirstE es n (roomAt es n)) (hr : roomAt es n + n ≤ c) : VInv c (es.set i ⟨name, roomAt es n, n⟩) := by
  refine h.set (.inr ⟨⟨hg, hn, hF.1, hr⟩, fun j hj _ hl hm => ?_⟩)
  rcases hm with hm | hm
  · exact findE_not hf j hj ⟨hl, hm.symm⟩
  · exact room_apart hF hj hl hm
theorem cre_inv {c : Nat} {es : List VE} (h : VInv c es) (hF : ∀ n, ∃ p, FirstE es n p) (t name : List UInt8) (n : Int) : VInv c (creV c es t name n).2.1 := by
  have hR : ∀ n, FirstE es n (roomAt es n) := fun n => by obtain ⟨p, hp⟩ := hF n; rw [hp.room]; exact hp
  unfold creV
  split
  · rename_i h1
    split
    · exact h
    · rename_i hf
      split
      · exact h
      · split
        · rename_i hr
          exact new_inv h h1.1 (by omega) hf (hR _) hr
        · exact h
  · exact h
theorem del_inv {c : Nat} {es : List VE} (h : VInv c es) (t name : List UInt8) : VInv c (delV es t name).2.1 := by
  unfold delV
  split
  · exact h
  · exact h.set (.inl rfl)
theorem oth_is {es : List VE} {name to_ : List UInt8} (h : (othV es name to_).2 = 0) : ∃ i, findE es name = some i ∧ gb to_ = true ∧ findE es to_ = none ∧ (othV es name to_).1 = i := by
  unfold othV at h ⊢
  cases hf : findE es name with
  | none => rw [hf] at h; cases h
  | some i =>
    rw [hf] at h
    dsimp only at h ⊢
    by_cases hg : gb to_ = true
    · rw [if_pos hg] at h ⊢
      cases hf2 : findE es to_ with
      | some _ => rw [hf2] at h; cases h
      | none => exact ⟨i, rfl, hg, rfl, rfl⟩
    · rw [if_neg hg] at h; cases h
theorem ren_inv {c : Nat} {es : List VE} (h : VInv c es) (t name to_ : List UInt8) : VInv c (renV es t name to_).2.1 := by
  unfold renV
  split
  · rename_i h0
    obtain ⟨i, hf, hg, hf2, e⟩ := oth_is h0
    rw [e]
    obtain ⟨hi, h1, h2⟩ := findE_is hf
    have hok := h.okOf hi h1
    dsimp only
    rw [geE_get hi]
    refine h.set (.inr ⟨⟨hg, hok.2.1, hok.2.2.1, hok.2.2.2⟩, fun j hj hne hl hm => ?_⟩)
    rcases hm with hm | hm
    · exact findE_not hf2 j hj ⟨hl, hm.symm⟩
    · exact h.apart i j hi hj (by omega) h1 hl (.inr hm)
  · exact h
/-- There is always a first place. -/
theorem first_ex {c : Nat} {es : List VE} (h : VInv c es) (n : Nat) : ∃ p, FirstE es n p := by
  have key : ∀ m p, 8 ≤ p → (∀ k, 8 ≤ k → k < p → Blk es n k) → c + 8 - p ≤ m → ∃ p, FirstE es n p := by
    intro m
    induction m with
    | zero =>
      intro p hp hb hm
      refine ⟨p, hp, fun ⟨i, hi, hl, h1, h2⟩ => ?_, hb⟩
      have := h.bound hi
      omega
    | succ m ih =>
      intro p hp hb hm
      by_cases hB : Blk es n p
      · exact ih (p + 1) (by omega) (fun k hk hlt => by
          by_cases e : k = p
          · rw [e]; exact hB
          · exact hb k hk (by omega)) (by omega)
      · exact ⟨p, hp, hB, hb⟩
  exact key (c + 8) 8 (Nat.le_refl _) (fun k h1 h2 => by omega) (by omega)
end Go.Mo
namespace Go.Mo
open Go Go.Sl Go.Evl
def flE (es : List VE) : List Value := (es.map VE.cells).flatten
/-- A store's cells. -/
def stC (TP a c : Nat) (es : List VE) : List Value := .iface TP (ptr a 0) :: intV c :: flE es
theorem VE.cells_length (x : VE) : x.cells.length = 3 := rfl
theorem VE.cells_one (x : VE) : ∀ u ∈ x.cells, u.oneCell' = true := by
  intro u hu
  simp only [VE.cells, List.mem_cons, List.not_mem_nil, or_false] at hu
  rcases hu with rfl | rfl | rfl <;> rfl
theorem flE_cons (x : VE) (es : List VE) : flE (x :: es) = x.cells ++ flE es := by simp [flE]
theorem flE_append (xs ys : List VE) : flE (xs ++ ys) = flE xs ++ flE ys := by simp [flE]
theorem flE_length : ∀ es : List VE, (flE es).length = es.length * 3
  | [] => rfl
  | x :: es => by
    rw [flE_cons, List.length_append, flE_length es, VE.cells_length, List.length_cons]
    omega
theorem flE_drop : ∀ (es : List VE) (j : Nat), (flE es).drop (j * 3) = flE (es.drop j)
  | es, 0 => by simp
  | [], j + 1 => by simp [flE]
  | x :: es, j + 1 => by
    rw [flE_cons, List.drop_succ_cons, ← flE_drop es j, List.drop_append, VE.cells_length, List.drop_eq_nil_of_le (by rw [VE.cells_length]; omega), List.nil_append, show (j + 1) * 3 - 3 = j * 3 from by omega]
theorem flE_get {es : List VE} {j : Nat} (h : j < es.length) : ((flE es).drop (j * 3)).take 3 = es[j].cells := by
  rw [flE_drop, List.drop_eq_getElem_cons h, flE_cons]
  exact List.take_left' rfl
theorem stC_length {TP a c : Nat} {es : List VE} (h : es.length = 8) : (stC TP a c es).length = 26 := by
  show (flE es).length + 1 + 1 = 26
  rw [flE_length]; omega
theorem stC_all {TP a c : Nat} {es : List VE} (h : es.length = 8) : ((stC TP a c es).drop (0 + 2)).take 24 = flE es := by
  show (flE es).take 24 = flE es
  exact List.take_of_length_le (by rw [flE_length]; omega)
theorem stC_drop {TP a c : Nat} {es : List VE} (i : Nat) : (stC TP a c es).drop (0 + 2 + i * 3) = (flE es).drop (i * 3) := by
  rw [show 0 + 2 + i * 3 = i * 3 + 1 + 1 from by omega]
  rfl
theorem stC_get {TP a c : Nat} {es : List VE} {i : Nat} (h : i < es.length) : ((stC TP a c es).drop (0 + 2 + i * 3)).take 3 = es[i].cells := by
  rw [stC_drop, flE_get h]
theorem flE_set : ∀ {es : List VE} {i : Nat} (x : VE), i < es.length → (flE es).take (i * 3) ++ x.cells ++ (flE es).drop ((i + 1) * 3) = flE (es.set i x)
  | [], i, x, h => absurd h (Nat.not_lt_zero _)
  | y :: es, 0, x, h => by
    rw [List.set_cons_zero, flE_cons, flE_cons]
    rfl
  | y :: es, i + 1, x, h => by
    rw [List.set_cons_succ, flE_cons, flE_cons, ← flE_set x (by simpa using h), List.take_append, List.drop_append, VE.cells_length, List.take_of_length_le (by rw [VE.cells_length]; omega), List.drop_eq_nil_of_le (by rw [VE.cells_length]; omega), List.nil_append, show (i + 1) * 3 - 3 = i * 3 from by omega, show (i + 1 + 1) * 3 - 3 = (i + 1) * 3 from by omega]
    simp only [List.append_assoc]
theorem stC_lay {TP a c : Nat} {es : List VE} {i : Nat} (x : VE) (h : i < es.length) : lay (stC TP a c es) (0 + 2 + i * 3) x.cells = stC TP a c (es.set i x) := by
  have hl : (stC TP a c es).length = es.length * 3 + 2 := by show (flE es).length + 1 + 1 = _; rw [flE_length]
  rw [lay_eq _ _ _ (by rw [hl, VE.cells_length]; omega), VE.cells_length, show 0 + 2 + i * 3 + 3 = 0 + 2 + (i + 1) * 3 from by omega, stC_drop, show 0 + 2 + i * 3 = i * 3 + 1 + 1 from by omega]
  show _ :: _ :: ((flE es).take (i * 3)) ++ x.cells ++ (flE es).drop ((i + 1) * 3) = _
  rw [stC, ← flE_set x h]
  rfl
theorem vols_take {es : List VE} {k : Nat} (h : k < es.length) : volsE (es.take (k + 1)) = if 0 < es[k].len then volsE (es.take k) ++ [es[k]] else volsE (es.take k) := by
  unfold volsE
  rw [List.take_succ_eq_append_getElem h, List.filter_append]
  by_cases hl : 0 < es[k].len
  · rw [if_pos hl]; simp [hl]
  · rw [if_neg hl]; simp [hl]
theorem vols_len (es : List VE) : (volsE es).length ≤ es.length := List.length_filter_le _ _
/-- The number of the first free entry, or -1. -/
def freeZ (es : List VE) : Int := match freeI es with | some i => (i : Int) | none => -1
theorem freeZ_some {es : List VE} {i : Nat} (h : freeI es = some i) : freeZ es = i := by unfold freeZ; rw [h]
theorem freeZ_none {es : List VE} (h : freeI es = none) : freeZ es = -1 := by unfold freeZ; rw [h]
theorem sumL_take {es : List VE} {k : Nat} (h : k < es.length) : sumL (es.take (k + 1)) = sumL (es.take k) + es[k].len := by
  unfold sumL
  rw [List.take_succ_eq_append_getElem h, List.map_append, List.sum_append]
  rfl
theorem sumL_le {c : Nat} {es : List VE} (h : VInv c es) : ∀ k, k ≤ 8 → sumL (es.take k) ≤ k * c
  | 0, _ => by simp [sumL]
  | k + 1, hk => by
    have hl := h.len
    rw [sumL_take (by omega), Nat.succ_mul]
    have h1 := sumL_le h k (by omega)
    have h2 := h.bound (i := k) (by omega)
    omega
end Go.Mo
namespace Go.Mo
open Go Go.Sl Go.Evl
theorem erE_yes {t : List UInt8} {lba n : Int} (h : Right (t.length / 32 : Nat) lba n) : erT t lba n = 0 := by unfold erT; rw [if_pos h]
theorem cap_of {t : List UInt8} {c : Nat} (h : t.length = c * 32) : t.length / 32 = c := by rw [h]; exact Nat.mul_div_cancel c (by decide)
section
variable {es : List VE} {t name to_ : List UInt8} {at_ n : Int} {c i : Nat}
theorem plc_none (hf : findE es name = none) : plcE es name at_ n = (0, 4) := by unfold plcE; rw [hf]
theorem plc_no (hf : findE es name = some i) (hi : i < es.length) (h : ¬ Right (es[i].len : Nat) at_ n) : plcE es name at_ n = (0, 1) := by
  unfold plcE; rw [hf]; dsimp only; rw [geE_get hi, if_neg h]
theorem plc_yes (hf : findE es name = some i) (hi : i < es.length) (h : Right (es[i].len : Nat) at_ n) : plcE es name at_ n = (es[i].first + at_, 0) := by
  unfold plcE; rw [hf]; dsimp only; rw [geE_get hi, if_pos h]
theorem plc_is (h : (plcE es name at_ n).2 = 0) : ∃ i, ∃ hi : i < es.length, findE es name = some i ∧ Right (es[i].len : Nat) at_ n ∧ (plcE es name at_ n).1 = es[i].first + at_ := by
  cases hf : findE es name with
  | none => rw [plc_none hf] at h; cases h
  | some i =>
    obtain ⟨hi, _, _⟩ := findE_is hf
    by_cases hR : Right (es[i].len : Nat) at_ n
    · exact ⟨i, hi, rfl, hR, by rw [plc_yes hf hi hR]⟩
    · rw [plc_no hf hi hR] at h; cases h
theorem plc_right (hv : VInv c es) (h : (plcE es name at_ n).2 = 0) : Right c (plcE es name at_ n).1 n := by
  obtain ⟨i, hi, _, hR, e⟩ := plc_is h
  rw [e]
  have hb := hv.bound hi
  unfold Right at hR ⊢
  omega
theorem oth_none (hf : findE es name = none) : othV es name to_ = (0, 4) := by unfold othV; rw [hf]
theorem oth_bad (hf : findE es name = some i) (hg : ¬ gb to_ = true) : othV es name to_ = (0, 1) := by unfold othV; rw [hf]; dsimp only; rw [if_neg hg]
theorem oth_two {j : Nat} (hf : findE es name = some i) (hg : gb to_ = true) (hf2 : findE es to_ = some j) : othV es name to_ = (0, 8) := by unfold othV; rw [hf]; dsimp only; rw [if_pos hg, hf2]
theorem oth_ok (hf : findE es name = some i) (hg : gb to_ = true) (hf2 : findE es to_ = none) : othV es name to_ = (i, 0) := by unfold othV; rw [hf]; dsimp only; rw [if_pos hg, hf2]
theorem del_none (hf : findE es name = none) : delV es t name = (4, es, t) := by unfold delV; rw [hf]
theorem del_some (hf : findE es name = some i) : delV es t name = (0, es.set i VE.zero, wrT t i 1 []) := by unfold delV; rw [hf]
theorem rea_no (h : (plcE es name at_ n).2 ≠ 0) : reaV es t name at_ n = ([], (plcE es name at_ n).2) := by unfold reaV; rw [if_neg h]
theorem rea_yes (h : (plcE es name at_ n).2 = 0) : reaV es t name at_ n = (rdT t (plcE es name at_ n).1 n, 0) := by unfold reaV; rw [if_pos h]
theorem wri_no {data : List UInt8} (h : (plcE es name at_ n).2 ≠ 0) : wriV es t name at_ n data = ((plcE es name at_ n).2, t) := by unfold wriV; rw [if_neg h]
theorem wri_yes {data : List UInt8} (h : (plcE es name at_ n).2 = 0) : wriV es t name at_ n data = (0, wrT t (plcE es name at_ n).1 n data) := by unfold wriV; rw [if_pos h]
theorem ren_no (h : (othV es name to_).2 ≠ 0) : renV es t name to_ = ((othV es name to_).2, es, t) := by unfold renV; rw [if_neg h]
theorem ren_yes (h : (othV es name to_).2 = 0) (hi : (othV es name to_).1 < es.length) : renV es t name to_ = (0, es.set (othV es name to_).1 ⟨to_, es[(othV es name to_).1].first, es[(othV es name to_).1].len⟩, wrT t (othV es name to_).1 1 (laidT ⟨to_, es[(othV es name to_).1].first, es[(othV es name to_).1].len⟩)) := by
  unfold renV; rw [if_pos h, geE_get hi]
theorem oth_lt (h : (othV es name to_).2 = 0) : ∃ hi : (othV es name to_).1 < es.length, 0 < es[(othV es name to_).1].len ∧ gb to_ = true := by
  obtain ⟨i, hf, hg, hf2, e⟩ := oth_is h
  obtain ⟨hi, h1, _⟩ := findE_is hf
  subst e
  exact ⟨hi, h1, hg⟩
theorem free_of (h : 0 ≤ freeZ es) : ∃ i, freeI es = some i ∧ freeZ es = i := by
  cases hf : freeI es with
  | none => rw [freeZ_none hf] at h; omega
  | some i => exact ⟨i, rfl, freeZ_some hf⟩
theorem cre_bad (h : ¬ (gb name = true ∧ 1 ≤ n ∧ n ≤ 512)) : creV c es t name n = (1, es, t) := by unfold creV; rw [if_neg h]
theorem cre_two {j : Nat} (h : gb name = true ∧ 1 ≤ n ∧ n ≤ 512) (hf : findE es name = some j) : creV c es t name n = (8, es, t) := by unfold creV; rw [if_pos h, hf]
theorem cre_full {m : Nat} (h : gb name = true ∧ 1 ≤ (m : Int) ∧ (m : Int) ≤ 512) (hf : findE es name = none) (hr : ¬ (0 ≤ freeZ es ∧ roomAt es m + m ≤ c)) : creV c es t name m = (5, es, t) := by
  unfold creV
  rw [if_pos h, hf]
  dsimp only
  cases hi : freeI es with
  | none => rfl
  | some i =>
    dsimp only
    rw [Int.toNat_natCast, if_neg (fun g => hr ⟨by rw [freeZ_some hi]; omega, g⟩)]
theorem cre_ok {m : Nat} (h : gb name = true ∧ 1 ≤ (m : Int) ∧ (m : Int) ≤ 512) (hf : findE es name = none) (hi : freeI es = some i) (hr : roomAt es m + m ≤ c) : creV c es t name m = (0, es.set i ⟨name, roomAt es m, m⟩, wrT (wrT t (roomAt es m : Nat) m []) i 1 (laidT ⟨name, roomAt es m, m⟩)) := by
  unfold creV
  rw [if_pos h, hf]
  dsimp only
  rw [hi]
  dsimp only
  rw [Int.toNat_natCast, if_pos hr]
end
theorem find_getD {es : List VE} {name : List UInt8} {i : Nat} (h : findE es name = some i) : (findE es name).getD 0 = i := by rw [h]; rfl
end Go.Mo
namespace Go.Mo
open Go Go.Sl Go.Evl
/-- The entries found so far, the others free. -/
noncomputable def opP (c : Nat) (t : List UInt8) (k : Nat) : List VE := opE c t k ++ List.replicate (8 - k) VE.zero
theorem opP_len {c : Nat} {t : List UInt8} {k : Nat} (h : k ≤ 8) : (opP c t k).length = 8 := by
  unfold opP; rw [List.length_append, opE_length, List.length_replicate]; omega
theorem opP_inv {c : Nat} {t : List UInt8} {k : Nat} (h : k ≤ 8) : VInv c (opP c t k) := op_inv c t k h
theorem opP_all {c : Nat} {t : List UInt8} : opP c t 8 = opE c t 8 := by unfold opP; simp
theorem rdE_zero {c : Nat} {b : List UInt8} (h : (rdE c b).len = 0) : rdE c b = VE.zero := by
  rcases rdE_ok c b with e | e
  · exact e
  · exact absurd e.2.1 (by omega)
theorem opP_skip0 {c : Nat} {t : List UInt8} {k : Nat} (hk : k < 8) (h : opE c t (k + 1) = opE c t k ++ [VE.zero]) : opP c t k = opP c t (k + 1) := by
  unfold opP
  rw [h, set_pad hk (opE_length c t k)]
  apply List.ext_getElem?
  intro i
  rw [List.getElem?_set]
  split
  · rename_i e
    subst e
    have hl := opE_length c t k
    rw [List.getElem?_append_right (by omega), hl, Nat.sub_self, List.getElem?_replicate, if_pos (by omega), if_pos (by simp; omega)]
  · rfl
theorem opE_no {c : Nat} {t : List UInt8} {k : Nat} (h : (rdE c (secT t k)).len = 0) : opE c t (k + 1) = opE c t k ++ [VE.zero] := by
  rw [opE]
  split
  · rfl
  · rw [rdE_zero h]
theorem opE_meet {c : Nat} {t : List UInt8} {k j : Nat} (hj : j < (volsE (opE c t k)).length) (h : (rdE c (secT t k)).meets (volsE (opE c t k))[j]) : opE c t (k + 1) = opE c t k ++ [VE.zero] := by
  rw [opE, if_pos ⟨_, List.getElem_mem hj, h⟩]
theorem opE_new {c : Nat} {t : List UInt8} {k : Nat} (h : ∀ j (hj : j < (volsE (opE c t k)).length), ¬ (rdE c (secT t k)).meets (volsE (opE c t k))[j]) : opE c t (k + 1) = opE c t k ++ [rdE c (secT t k)] := by
  rw [opE, if_neg]
  rintro ⟨y, hy, hm⟩
  obtain ⟨j, hj, rfl⟩ := List.getElem_of_mem hy
  exact h j hj hm
theorem opP_new {c : Nat} {t : List UInt8} {k : Nat} (hk : k < 8) (h : opE c t (k + 1) = opE c t k ++ [rdE c (secT t k)]) : (opP c t k).set k (rdE c (secT t k)) = opP c t (k + 1) := by
  unfold opP
  rw [h, set_pad hk (opE_length c t k)]
theorem opP_vols (c : Nat) (t : List UInt8) (k : Nat) : volsE (opP c t k) = volsE (opE c t k) := vols_pad _ _
theorem vols_bound {c : Nat} {es : List VE} (h : VInv c es) {j : Nat} (hj : j < (volsE es).length) : (volsE es)[j].ok c ∧ 0 < (volsE es)[j].len := by
  have hm := List.mem_filter.1 (List.getElem_mem hj)
  have hl := of_decide_eq_true hm.2
  rcases h.each _ hm.1 with e | e
  · rw [e] at hl; exact absurd hl (Nat.lt_irrefl _)
  · exact ⟨e, hl⟩
theorem rdE_bound (c : Nat) (b : List UInt8) : (rdE c b).first + (rdE c b).len ≤ c := by
  rcases rdE_ok c b with e | e
  · rw [e]; exact Nat.zero_le _
  · exact e.2.2.2
theorem sec_len {t : List UInt8} {k : Nat} (h : (k + 1) * 32 ≤ t.length) : (secT t k).length = 32 := by
  unfold secT; rw [List.length_drop, List.length_take]; omega
theorem sec_rd {t : List UInt8} {k : Nat} (hk : k < 8) (hR : Right (t.length / 32 : Nat) 0 8) : ((rdT t 0 8).take ((k + 1) * 32)).drop (k * 32) = secT t k := by
  unfold rdT secT
  rw [if_pos hR]
  show ((((t.drop 0).take 256).take ((k + 1) * 32))).drop (k * 32) = _
  rw [List.drop_zero, List.take_take, Nat.min_eq_left (by omega)]
theorem flE_getR {es : List VE} {j : Nat} {rest : List Value} (h : j < es.length) : ((flE es ++ rest).drop (0 + j * 3)).take 3 = es[j].cells := by
  have hl := flE_length es
  rw [Nat.zero_add, List.drop_append_of_le_length (by omega), List.take_append_of_le_length (by rw [List.length_drop]; omega), flE_get h]
/-- A script's step. -/
structure VAct where
  op : Int
  a : Int
  b : Int
  at_ : Int
  n : Int
  data : List UInt8
def VAct.cells (x : VAct) : List Value := [.int .i64 x.op, .int .i64 x.a, .int .i64 x.b, .int .i64 x.at_, .int .i64 x.n, strV x.data]
theorem cre_len (c : Nat) (es : List VE) (t name : List UInt8) (n : Int) : (creV c es t name n).2.2.length = t.length := by
  unfold creV
  repeat' split
  all_goals first | rfl | simp only [wrT_length]
theorem del_len (es : List VE) (t name : List UInt8) : (delV es t name).2.2.length = t.length := by
  unfold delV
  split
  · rfl
  · exact wrT_length _ _ _ _
theorem ren_len (es : List VE) (t name to_ : List UInt8) : (renV es t name to_).2.2.length = t.length := by
  unfold renV
  split
  · exact wrT_length _ _ _ _
  · rfl
end Go.Mo
namespace Go.Mo
open Go Go.Sl Go.Evl
theorem wrT_get {t : List UInt8} {f l : Nat} {d : List UInt8} (h : Right (t.length / 32 : Nat) f l) (p : Nat) : (wrT t f l d)[p]? = if f * 32 ≤ p ∧ p < (f + l) * 32 then (padN (l * 32) d)[p - f * 32]? else t[p]? := by
  unfold wrT
  rw [if_pos h]
  unfold Right at h
  have hl : (f + l) * 32 ≤ t.length := by omega
  simp only [Int.toNat_natCast]
  have h1 : (t.take (f * 32)).length = f * 32 := by rw [List.length_take]; omega
  have h2 : (padN (l * 32) d).length = l * 32 := padN_length _ _
  by_cases a : p < f * 32
  · rw [if_neg (by omega), List.append_assoc, List.getElem?_append_left (by omega), List.getElem?_take_of_lt a]
  · by_cases b : p < (f + l) * 32
    · rw [if_pos ⟨by omega, b⟩, List.append_assoc, List.getElem?_append_right (by omega), h1, List.getElem?_append_left (by omega)]
    · rw [if_neg (by omega), List.getElem?_append_right (by rw [List.length_append]; omega), List.length_append, h1, h2, List.getElem?_drop]
      congr 1
      omega
theorem rdT_get {t : List UInt8} {f l : Nat} (h : Right (t.length / 32 : Nat) f l) (p : Nat) : (rdT t f l)[p]? = if p < l * 32 then t[f * 32 + p]? else none := by
  unfold rdT
  rw [if_pos h, Int.toNat_natCast, Int.toNat_natCast]
  by_cases a : p < l * 32
  · rw [if_pos a, List.getElem?_take_of_lt a, List.getElem?_drop]
  · rw [if_neg a, List.getElem?_eq_none (by rw [List.length_take]; omega)]
/-- What is written elsewhere is not read. -/
theorem rd_wr_apart {t : List UInt8} {f l g m : Nat} {d : List UInt8} (h : Right (t.length / 32 : Nat) f l) (k : Right (t.length / 32 : Nat) g m) (ha : f + l ≤ g ∨ g + m ≤ f) : rdT (wrT t f l d) g m = rdT t g m := by
  apply List.ext_getElem?
  intro p
  rw [rdT_get (by rw [wrT_length]; exact k), rdT_get k]
  by_cases e : p < m * 32
  · rw [if_pos e, if_pos e, wrT_get h, if_neg (by omega)]
  · rw [if_neg e, if_neg e]
/-- What was written reads back. -/
theorem rd_wr_same {t : List UInt8} {f l : Nat} {d : List UInt8} (h : Right (t.length / 32 : Nat) f l) : rdT (wrT t f l d) f l = padN (l * 32) d := by
  apply List.ext_getElem?
  intro p
  rw [rdT_get (by rw [wrT_length]; exact h)]
  by_cases e : p < l * 32
  · rw [if_pos e, wrT_get h, if_pos ⟨by omega, by omega⟩]
    congr 1
    omega
  · rw [if_neg e, List.getElem?_eq_none (by rw [padN_length]; omega)]
end Go.Mo
namespace Go.Mo
open Go Go.Sl Go.Evl
/-- Where the j-th of volumes of these lengths begins. -/
def fW (nz : Nat → Nat) : Nat → Nat
  | 0 => 8
  | j + 1 => fW nz j + nz j
def updF {α : Type} (f : Nat → α) (m : Nat) (v : α) : Nat → α := fun j => if j = m then v else f j
theorem updF_at {α : Type} (f : Nat → α) (m : Nat) (v : α) : updF f m v m = v := if_pos rfl
theorem updF_ne {α : Type} (f : Nat → α) {m j : Nat} (v : α) (h : j ≠ m) : updF f m v j = f j := if_neg h
theorem fW_ge (nz : Nat → Nat) : ∀ j, 8 ≤ fW nz j
  | 0 => Nat.le_refl _
  | j + 1 => by have := fW_ge nz j; rw [fW]; omega
theorem fW_mono (nz : Nat → Nat) {j k : Nat} (h : j ≤ k) : fW nz j ≤ fW nz k := by
  induction h with
  | refl => exact Nat.le_refl _
  | step _ ih => rw [fW]; omega
theorem fW_upd (nz : Nat → Nat) {m v : Nat} : ∀ {j : Nat}, j ≤ m → fW (updF nz m v) j = fW nz j
  | 0, _ => rfl
  | j + 1, h => by rw [fW, fW, fW_upd nz (by omega), updF_ne nz v (by omega)]
theorem fW_in (nz : Nat → Nat) {p : Nat} (h8 : 8 ≤ p) : ∀ {m : Nat}, p < fW nz m → ∃ j, j < m ∧ fW nz j ≤ p ∧ p < fW nz j + nz j
  | 0, h => by rw [fW] at h; omega
  | m + 1, h => by
    by_cases e : p < fW nz m
    · obtain ⟨j, h1, h2⟩ := fW_in nz h8 e
      exact ⟨j, by omega, h2⟩
    · exact ⟨m, Nat.lt_succ_self m, by omega, h⟩
/-- The volumes from lo to m lie one behind the other. -/
structure LayE (nm : Nat → List UInt8) (nz : Nat → Nat) (lo m : Nat) (es : List VE) : Prop where
  len : es.length = 8
  at_ : ∀ j (h : j < es.length), es[j] = if lo ≤ j ∧ j < m then ⟨nm j, fW nz j, nz j⟩ else VE.zero
theorem LayE.yes {nm : Nat → List UInt8} {nz : Nat → Nat} {lo m : Nat} {es : List VE} (h : LayE nm nz lo m es) {j : Nat} (hj : j < es.length) (hl : lo ≤ j ∧ j < m) : es[j] = ⟨nm j, fW nz j, nz j⟩ := by rw [h.at_ j hj, if_pos hl]
theorem LayE.no {nm : Nat → List UInt8} {nz : Nat → Nat} {lo m : Nat} {es : List VE} (h : LayE nm nz lo m es) {j : Nat} (hj : j < es.length) (hl : ¬ (lo ≤ j ∧ j < m)) : es[j] = VE.zero := by rw [h.at_ j hj, if_neg hl]
section
variable {nm : Nat → List UInt8} {nz : Nat → Nat} {lo m : Nat} {es : List VE}
theorem lay_find (h : LayE nm nz lo m es) (hm : m ≤ 8) {j : Nat} (hj : lo ≤ j ∧ j < m) (hz : 1 ≤ nz j) (hinj : ∀ k, lo ≤ k → k < m → nm k = nm j → k = j) : findE es (nm j) = some j := by
  have hl := h.len
  refine findE_some (by omega) ?_ ?_
  · rw [h.yes (by omega) hj]; exact ⟨hz, rfl⟩
  · intro k hk hkj hh
    by_cases e : lo ≤ k ∧ k < m
    · rw [h.yes hk e] at hh
      exact absurd (hinj k e.1 e.2 hh.2) (by omega)
    · rw [h.no hk e] at hh
      exact absurd hh.1 (Nat.lt_irrefl _)
theorem lay_none (h : LayE nm nz lo m es) {name : List UInt8} (hn : ∀ k, lo ≤ k → k < m → nm k ≠ name) : findE es name = none := by
  refine findE_none fun k hk hh => ?_
  by_cases e : lo ≤ k ∧ k < m
  · rw [h.yes hk e] at hh
    exact hn k e.1 e.2 hh.2
  · rw [h.no hk e] at hh
    exact absurd hh.1 (Nat.lt_irrefl _)
theorem lay_free (h : LayE nm nz 0 m es) (hm : m < 8) (hz : ∀ j, j < m → 1 ≤ nz j) : freeI es = some m := by
  have hl := h.len
  refine freeI_some (by omega) ?_ ?_
  · rw [h.no (by omega) (by omega)]; rfl
  · intro k hk hkm
    rw [h.yes hk ⟨Nat.zero_le _, hkm⟩]
    have := hz k hkm
    show nz k ≠ 0
    omega
theorem lay_first (h : LayE nm nz 0 m es) (hm : m ≤ 8) {n : Nat} (hn : 1 ≤ n) : FirstE es n (fW nz m) := by
  have hl := h.len
  refine ⟨fW_ge _ _, ?_, ?_⟩
  · rintro ⟨i, hi, h1, h2, h3⟩
    by_cases e : 0 ≤ i ∧ i < m
    · rw [h.yes hi e] at h2
      have : fW nz (i + 1) ≤ fW nz m := fW_mono nz (by omega)
      rw [fW] at this
      dsimp only at h2
      omega
    · rw [h.no hi e] at h1
      exact absurd h1 (Nat.lt_irrefl _)
  · intro p hp hlt
    obtain ⟨j, h1, h2, h3⟩ := fW_in nz hp hlt
    refine ⟨j, by omega, ?_⟩
    rw [h.yes (by omega) ⟨Nat.zero_le _, h1⟩]
    exact ⟨by show 0 < nz j; omega, h3, by show fW nz j < p + n; omega⟩
theorem lay_new (h : LayE nm nz 0 m es) (hm : m < 8) (name : List UInt8) (n : Nat) : LayE (updF nm m name) (updF nz m n) 0 (m + 1) (es.set m ⟨name, fW nz m, n⟩) where
  len := by rw [List.length_set, h.len]
  at_ j hj := by
    rw [List.length_set] at hj
    rw [List.getElem_set]
    by_cases e : m = j
    · subst e
      rw [if_pos rfl, if_pos (by omega), updF_at, updF_at, fW_upd nz (Nat.le_refl _)]
    · rw [if_neg e, h.at_ j hj]
      by_cases g : j < m
      · rw [if_pos ⟨Nat.zero_le _, g⟩, if_pos (by omega), updF_ne nm name (by omega), updF_ne nz n (by omega), fW_upd nz (by omega)]
      · rw [if_neg (by omega), if_neg (by omega)]
theorem lay_ren (h : LayE nm nz lo m es) {k : Nat} (hk : lo ≤ k ∧ k < m) (h8 : k < es.length) (name : List UInt8) : LayE (updF nm k name) nz lo m (es.set k ⟨name, es[k].first, es[k].len⟩) where
  len := by rw [List.length_set, h.len]
  at_ j hj := by
    rw [List.length_set] at hj
    rw [List.getElem_set]
    by_cases e : k = j
    · subst e
      rw [if_pos rfl, if_pos hk, updF_at, h.yes hj hk]
    · rw [if_neg e, h.at_ j hj]
      by_cases g : lo ≤ j ∧ j < m
      · rw [if_pos g, if_pos g, updF_ne nm name (by omega)]
      · rw [if_neg g, if_neg g]
theorem lay_del {k : Nat} (h : LayE nm nz k m es) : LayE nm nz (k + 1) m (es.set k VE.zero) where
  len := by rw [List.length_set, h.len]
  at_ j hj := by
    rw [List.length_set] at hj
    rw [List.getElem_set]
    by_cases e : k = j
    · subst e
      rw [if_pos rfl, if_neg (by omega)]
    · rw [if_neg e, h.at_ j hj]
      by_cases g : k ≤ j ∧ j < m
      · rw [if_pos g, if_pos (by omega)]
      · rw [if_neg g, if_neg (by omega)]
theorem lay_congr {nm' : Nat → List UInt8} (h : LayE nm nz lo m es) (hn : ∀ j, lo ≤ j → j < m → nm' j = nm j) : LayE nm' nz lo m es where
  len := h.len
  at_ j hj := by
    rw [h.at_ j hj]
    by_cases g : lo ≤ j ∧ j < m
    · rw [if_pos g, if_pos g, hn j g.1 g.2]
    · rw [if_neg g, if_neg g]
theorem lay_zero (nm : Nat → List UInt8) (nz : Nat → Nat) : LayE nm nz 0 0 (List.replicate 8 VE.zero) where
  len := rfl
  at_ j hj := by rw [List.getElem_replicate, if_neg (by omega)]
theorem lay_end (h : LayE nm nz m m es) : sumL es = 0 ∧ volsE es = [] := by
  have hz : ∀ x ∈ es, x = VE.zero := fun x hx => by
    obtain ⟨j, hj, rfl⟩ := List.getElem_of_mem hx
    exact h.no hj (by omega)
  constructor
  · unfold sumL
    have : es.map (·.len) = List.replicate es.length 0 := by
      rw [List.eq_replicate_iff]
      refine ⟨by simp, fun y hy => ?_⟩
      obtain ⟨x, hx, rfl⟩ := List.mem_map.1 hy
      rw [hz x hx]; rfl
    rw [this]
    simp
  · unfold volsE
    rw [List.filter_eq_nil_iff]
    intro x hx
    rw [hz x hx]
    simp [VE.zero]
end
theorem sum_set : ∀ {es : List VE} {i : Nat} (x : VE) (h : i < es.length), sumL (es.set i x) + es[i].len = sumL es + x.len
  | [], i, x, h => absurd h (Nat.not_lt_zero _)
  | y :: es, 0, x, h => by
    simp only [sumL, List.set_cons_zero, List.map_cons, List.sum_cons, List.getElem_cons_zero]
    omega
  | y :: es, i + 1, x, h => by
    have ih := sum_set (es := es) (i := i) x (by simpa using h)
    simp only [sumL, List.set_cons_succ, List.map_cons, List.sum_cons, List.getElem_cons_succ] at ih ⊢
    omega
/-- A sector of noughts is no entry. -/
theorem sec_zero {c k : Nat} : rdE c (secT (List.replicate (c * 32) 0) k) = VE.zero := by
  unfold rdE
  rw [if_neg]
  rintro ⟨_, h, _⟩
  have h0 : (secT (List.replicate (c * 32) (0 : UInt8)) k)[0]? = some 86 := by rw [h]; rfl
  unfold secT at h0
  have hm := List.mem_of_getElem? h0
  have h2 := List.mem_of_mem_take (List.mem_of_mem_drop hm)
  cases List.eq_of_mem_replicate h2
theorem op_zero (c : Nat) : ∀ k, opE c (List.replicate (c * 32) 0) k = List.replicate k VE.zero
  | 0 => rfl
  | k + 1 => by
    rw [opE_no (by rw [sec_zero]; rfl), op_zero c k, List.replicate_succ']
/-- Letters that may be. -/
theorem gb_ascii {l : List UInt8} (h : ∀ x ∈ l, 33 ≤ x.toNat ∧ x.toNat < 127) (hl : 1 ≤ l.length ∧ l.length ≤ 16) : gb l = true := by
  have hd : ∀ k, (hk : k < l.length) → dec l k = (l[k].toNat, 1) := fun k hk => by
    have := h _ (List.getElem_mem hk)
    rw [dec_unf, at0_get hk, if_pos (by omega)]
  have hp : ∀ k, k ≤ l.length → posR l k = k := by
    intro k
    induction k with
    | zero => intro _; rfl
    | succ k ih =>
      intro hk
      rw [posR, ih (by omega), hd k (by omega)]
  refine gb_iff.2 (.inr ⟨⟨l.length, fun j hj => ?_, hp _ (Nat.le_refl _)⟩, (decide_eq_true hl).symm⟩)
  rw [hp j (by omega)]
  have := h _ (List.getElem_mem hj)
  refine ⟨hj, ?_⟩
  unfold okR
  rw [hd j hj]
  refine ⟨this.1, by dsimp only; omega, fun e => ?_⟩
  have := congrArg Prod.fst e
  dsimp only at this
  omega
def vnT (i : Nat) : List UInt8 := [118, UInt8.ofNat (48 + i)]
def wnT (i : Nat) : List UInt8 := [119, 118, UInt8.ofNat (48 + i)]
theorem dig_toNat {i : Nat} (h : i ≤ 6) : (UInt8.ofNat (48 + i)).toNat = 48 + i := by
  rw [UInt8.toNat_ofNat']; omega
theorem vn_inj {i j : Nat} (hi : i ≤ 6) (hj : j ≤ 6) (h : vnT i = vnT j) : i = j := by
  unfold vnT at h
  have h1 := congrArg UInt8.toNat (List.cons.inj (List.cons.inj h).2).1
  rw [dig_toNat hi, dig_toNat hj] at h1
  omega
theorem wn_inj {i j : Nat} (hi : i ≤ 6) (hj : j ≤ 6) (h : wnT i = wnT j) : i = j := by
  unfold wnT at h
  have h1 := congrArg UInt8.toNat (List.cons.inj (List.cons.inj (List.cons.inj h).2).2).1
  rw [dig_toNat hi, dig_toNat hj] at h1
  omega
theorem vw_ne {i j : Nat} : vnT i ≠ wnT j := fun h => by have := congrArg List.length h; simp [vnT, wnT] at this
theorem gb_vn {i : Nat} (h : i ≤ 6) : gb (vnT i) = true := gb_ascii (fun x hx => by
  simp only [vnT, List.mem_cons, List.not_mem_nil, or_false] at hx
  rcases hx with rfl | rfl
  · decide
  · rw [dig_toNat h]; omega) (by simp [vnT])
theorem gb_wn {i : Nat} (h : i ≤ 6) : gb (wnT i) = true := gb_ascii (fun x hx => by
  simp only [wnT, List.mem_cons, List.not_mem_nil, or_false] at hx
  rcases hx with rfl | rfl | rfl
  · decide
  · decide
  · rw [dig_toNat h]; omega) (by simp [wnT])
end Go.Mo
namespace Go.Mo
open Go Go.Sl Go.Evl
/-- While they are made. -/
structure W1 (c : Nat) (dat : Nat → List UInt8) (nn : Nat → Nat) (i m : Nat) (ix nz : Nat → Nat) (es : List VE) (t : List UInt8) : Prop where
  v : VInv c es
  tl : t.length = c * 32
  lay : LayE (fun j => vnT (ix j)) nz 0 m es
  ord : ∀ j, j < m → ix j < i
  inj : ∀ j k, j < m → k < m → ix j = ix k → j = k
  nz1 : ∀ j, j < m → nz j = nn (ix j)
  fit : fW nz m ≤ c
  sum : sumL es + 8 = fW nz m
  mi : m ≤ i
  cont : ∀ j, j < m → rdT t (fW nz j) (nz j) = padN (nz j * 32) (dat (ix j))
section
variable {c : Nat} {dat : Nat → List UInt8} {nn : Nat → Nat} {i m : Nat} {ix nz : Nat → Nat} {es : List VE} {t : List UInt8}
theorem W1.init (h : 8 ≤ c) : W1 c dat nn 0 0 (fun _ => 0) (fun _ => 0) (List.replicate 8 VE.zero) (List.replicate (c * 32) 0) where
  v := VInv.zero c
  tl := by simp
  lay := lay_zero _ _
  ord j hj := absurd hj (Nat.not_lt_zero _)
  inj j k hj := absurd hj (Nat.not_lt_zero _)
  nz1 j hj := absurd hj (Nat.not_lt_zero _)
  fit := h
  sum := rfl
  mi := Nat.le_refl _
  cont j hj := absurd hj (Nat.not_lt_zero _)
theorem right_in {f n c : Nat} (h1 : 1 ≤ n) (h2 : f + n ≤ c) : Right (c : Nat) (f : Nat) (n : Nat) := by unfold Right; omega
theorem cap_in {t : List UInt8} (ht : t.length = c * 32) {f n : Nat} (h1 : 1 ≤ n) (h2 : f + n ≤ c) : Right (t.length / 32 : Nat) (f : Nat) (n : Nat) := by rw [cap_of ht]; exact right_in h1 h2
theorem W1.none (h : W1 c dat nn i m ix nz es t) (hi : i ≤ 6) : findE es (vnT i) = none := lay_none h.lay fun k _ hk e => by
  have h1 := h.ord k hk
  have := vn_inj (by omega) hi e
  omega
theorem W1.room (h : W1 c dat nn i m ix nz es t) (hm : m ≤ 8) {n : Nat} (hn : 1 ≤ n) : roomAt es n = fW nz m := (lay_first h.lay hm hn).room
theorem W1.full (h : W1 c dat nn i m ix nz es t) (hi : i ≤ 5) (hn : 1 ≤ nn i ∧ nn i ≤ 512) (hf : ¬ fW nz m + nn i ≤ c) : creV c es t (vnT i) (nn i : Nat) = (5, es, t) := by
  have := h.mi
  refine cre_full ⟨gb_vn (by omega), by omega, by omega⟩ (h.none (by omega)) fun g => hf ?_
  rw [← h.room (by omega) hn.1]
  exact g.2
theorem W1.fits (h : W1 c dat nn i m ix nz es t) (hi : i ≤ 5) (hn : 1 ≤ nn i ∧ nn i ≤ 512) (hpos : ∀ j, 1 ≤ nn j) (hf : fW nz m + nn i ≤ c) : creV c es t (vnT i) (nn i : Nat) = (0, es.set m ⟨vnT i, fW nz m, nn i⟩, wrT (wrT t (fW nz m : Nat) (nn i : Nat) []) m 1 (laidT ⟨vnT i, fW nz m, nn i⟩)) := by
  have := h.mi
  have hr := h.room (n := nn i) (by omega) hn.1
  have hc := cre_ok (t := t) ⟨gb_vn (i := i) (by omega), by omega, by omega⟩ (h.none (by omega)) (lay_free h.lay (by omega) (fun j hj => by rw [h.nz1 j hj]; exact hpos _)) (c := c) (m := nn i) (by rw [hr]; exact hf)
  rw [hr] at hc
  exact hc
theorem W1.skip (h : W1 c dat nn i m ix nz es t) : W1 c dat nn (i + 1) m ix nz es t where
  v := h.v
  tl := h.tl
  lay := h.lay
  ord j hj := by have := h.ord j hj; omega
  inj := h.inj
  nz1 := h.nz1
  fit := h.fit
  sum := h.sum
  mi := by have := h.mi; omega
  cont := h.cont
/-- One more, with what was written to it. -/
theorem W1.step (h : W1 c dat nn i m ix nz es t) (hi : i ≤ 5) (hn : 1 ≤ nn i ∧ nn i ≤ 512) (hpos : ∀ j, 1 ≤ nn j) (hf : fW nz m + nn i ≤ c) {u : List UInt8}
    (hu : (u = (creV c es t (vnT i) (nn i : Nat)).2.2 ∧ dat i = []) ∨ u = wrT (creV c es t (vnT i) (nn i : Nat)).2.2 (fW nz m : Nat) (nn i : Nat) (dat i)) :
    W1 c dat nn (i + 1) (m + 1) (updF ix m i) (updF nz m (nn i)) (creV c es t (vnT i) (nn i : Nat)).2.1 u := by
  have hmi := h.mi
  have hv' := cre_inv h.v (first_ex h.v) t (vnT i) (nn i : Nat)
  have htl := cre_len c es t (vnT i) (nn i : Nat)
  have hc := h.fits hi hn hpos hf
  have hln := lay_new h.lay (by omega) (vnT i) (nn i)
  have hsum := sum_set (es := es) (i := m) ⟨vnT i, fW nz m, nn i⟩ (by rw [h.lay.len]; omega)
  rw [h.lay.no (by rw [h.lay.len]; omega) (by omega)] at hsum
  have hs := h.sum
  have hf1 : fW (updF nz m (nn i)) (m + 1) = fW nz m + nn i := by rw [fW, fW_upd nz (Nat.le_refl _), updF_at]
  rw [hc] at hv' htl hu ⊢
  dsimp only at hv' htl hu ⊢
  have h8 : ∀ j, 8 ≤ fW nz j := fW_ge nz
  have hm8 := h8 m
  have hR := cap_in h.tl hn.1 hf
  have hW : ∀ j, j < m → fW nz j + nz j ≤ fW nz m := fun j hj => by have := fW_mono nz (j := j + 1) (k := m) hj; rwa [fW] at this
  have hnp : ∀ j, j < m → 1 ≤ nz j := fun j hj => by rw [h.nz1 j hj]; exact hpos _
  have hRj : ∀ j, j < m → Right (t.length / 32 : Nat) (fW nz j : Nat) (nz j : Nat) := fun j hj => cap_in h.tl (hnp j hj) (by have := hW j hj; omega)
  have hRm : Right (t.length / 32 : Nat) (m : Nat) (1 : Nat) := cap_in h.tl (Nat.le_refl 1) (by omega)
  -- what the older ones have
  have hold : ∀ j, j < m → rdT (wrT (wrT t (fW nz m : Nat) (nn i : Nat) []) m 1 (laidT ⟨vnT i, fW nz m, nn i⟩)) (fW nz j) (nz j) = rdT t (fW nz j) (nz j) := fun j hj => by
    have h1 := rd_wr_apart (t := wrT t (fW nz m : Nat) (nn i : Nat) []) (f := m) (l := 1) (g := fW nz j) (m := nz j) (d := laidT ⟨vnT i, fW nz m, nn i⟩) (by rw [wrT_length]; exact hRm) (by rw [wrT_length]; exact hRj j hj) (.inl (by have := h8 j; omega))
    exact h1.trans (rd_wr_apart hR (hRj j hj) (.inr (hW j hj)))
  have hnew : rdT (wrT (wrT t (fW nz m : Nat) (nn i : Nat) []) m 1 (laidT ⟨vnT i, fW nz m, nn i⟩)) (fW nz m) (nn i) = padN (nn i * 32) [] := by
    have h1 := rd_wr_apart (t := wrT t (fW nz m : Nat) (nn i : Nat) []) (f := m) (l := 1) (g := fW nz m) (m := nn i) (d := laidT ⟨vnT i, fW nz m, nn i⟩) (by rw [wrT_length]; exact hRm) (by rw [wrT_length]; exact hR) (.inl (by omega))
    exact h1.trans (rd_wr_same hR)
  have hul : u.length = c * 32 := by
    rcases hu with ⟨rfl, _⟩ | rfl
    · rw [htl]; exact h.tl
    · rw [wrT_length, htl]; exact h.tl
  refine ⟨hv', hul, lay_congr hln (fun j _ hj => ?_), ?_, ?_, ?_, ?_, ?_, by omega, ?_⟩
  · by_cases e : j = m
    · subst e; rw [updF_at, updF_at]
    · rw [updF_ne ix i e, updF_ne (fun j => vnT (ix j)) (vnT i) e]
  · intro j hj
    by_cases e : j = m
    · subst e; rw [updF_at]; omega
    · rw [updF_ne ix i e]; have := h.ord j (by omega); omega
  · intro j k hj hk he
    by_cases ej : j = m
    · by_cases ek : k = m
      · omega
      · rw [ej, updF_at, updF_ne ix i ek] at he
        have := h.ord k (by omega)
        omega
    · by_cases ek : k = m
      · rw [ek, updF_at, updF_ne ix i ej] at he
        have := h.ord j (by omega)
        omega
      · rw [updF_ne ix i ej, updF_ne ix i ek] at he
        exact h.inj j k (by omega) (by omega) he
  · intro j hj
    by_cases e : j = m
    · subst e; rw [updF_at, updF_at]
    · rw [updF_ne nz _ e, updF_ne ix i e]; exact h.nz1 j (by omega)
  · rw [hf1]; exact hf
  · rw [hf1]
    have hz : (VE.zero).len = 0 := rfl
    rw [hz] at hsum
    dsimp only at hsum
    omega
  · intro j hj
    have hcl : (wrT (wrT t (fW nz m : Nat) (nn i : Nat) []) m 1 (laidT ⟨vnT i, fW nz m, nn i⟩)).length = t.length := htl
    by_cases e : j = m
    · subst e
      rw [updF_at, updF_at, fW_upd nz (Nat.le_refl _)]
      rcases hu with ⟨rfl, hd⟩ | rfl
      · rw [hd]; exact hnew
      · exact rd_wr_same (by rw [hcl]; exact hR)
    · have hjm : j < m := by omega
      rw [updF_ne nz _ e, updF_ne ix i e, fW_upd nz (by omega)]
      rcases hu with ⟨rfl, hd⟩ | rfl
      · rw [hold j hjm]; exact h.cont j hjm
      · rw [rd_wr_apart (by rw [hcl]; exact hR) (by rw [hcl]; exact hRj j hjm) (.inr (hW j hjm)), hold j hjm]
        exact h.cont j hjm
/-- Where the new one is. -/
theorem W1.plc (h : W1 c dat nn i m ix nz es t) (hi : i ≤ 6) (hpos : ∀ j, 1 ≤ nn j) {j : Nat} (hj : j < m) : plcE es (vnT (ix j)) 0 (nz j : Nat) = ((fW nz j : Int), 0) := by
  have hmi := h.mi
  have hf := lay_find h.lay (by omega) ⟨Nat.zero_le _, hj⟩ (by rw [h.nz1 j hj]; exact hpos _) (fun k _ hk e => h.inj k j hk hj (vn_inj (by have := h.ord k hk; omega) (by have := h.ord j hj; omega) e))
  have hl := h.lay.len
  have hp := hpos (ix j)
  have e := h.lay.yes (j := j) (by omega) ⟨Nat.zero_le _, hj⟩
  rw [plc_yes hf (by omega) (by rw [e, h.nz1 j hj]; unfold Right; dsimp only; omega), e, Int.add_zero]
/-- The place of what was just made. -/
theorem W1.plcNew (h : W1 c dat nn i m ix nz es t) (hi : i ≤ 5) (hn : 1 ≤ nn i ∧ nn i ≤ 512) (hpos : ∀ j, 1 ≤ nn j) (hf : fW nz m + nn i ≤ c) : plcE (creV c es t (vnT i) (nn i : Nat)).2.1 (vnT i) 0 (nn i : Nat) = ((fW nz m : Int), 0) := by
  have hs := h.step hi hn hpos hf (u := wrT (creV c es t (vnT i) (nn i : Nat)).2.2 (fW nz m : Nat) (nn i : Nat) (dat i)) (.inr rfl)
  have hp := hs.plc (by omega) hpos (j := m) (by omega)
  rwa [updF_at, updF_at, fW_upd nz (Nat.le_refl _)] at hp
/-- While they get other names. -/
structure W2 (c : Nat) (dat : Nat → List UInt8) (nn : Nat → Nat) (m : Nat) (ix nz : Nat → Nat) (k : Nat) (es : List VE) (t : List UInt8) : Prop where
  v : VInv c es
  tl : t.length = c * 32
  lay : LayE (fun j => if j < k then wnT (ix j) else vnT (ix j)) nz 0 m es
  ord : ∀ j, j < m → ix j < 6
  inj : ∀ j k, j < m → k < m → ix j = ix k → j = k
  nz1 : ∀ j, j < m → nz j = nn (ix j)
  fit : fW nz m ≤ c
  m6 : m ≤ 6
  cont : ∀ j, j < m → rdT t (fW nz j) (nz j) = padN (nz j * 32) (dat (ix j))
theorem W1.to2 (h : W1 c dat nn i m ix nz es t) (hi : i ≤ 6) : W2 c dat nn m ix nz 0 es t where
  v := h.v
  tl := h.tl
  lay := lay_congr h.lay (fun j _ _ => if_neg (Nat.not_lt_zero _))
  ord j hj := by have := h.ord j hj; omega
  inj := h.inj
  nz1 := h.nz1
  fit := h.fit
  m6 := by have := h.mi; omega
  cont := h.cont
variable {k : Nat}
theorem W2.find (h : W2 c dat nn m ix nz k es t) (hpos : ∀ j, 1 ≤ nn j) {j : Nat} (hj : j < m) : findE es (if j < k then wnT (ix j) else vnT (ix j)) = some j := by
  have hm := h.m6
  refine lay_find h.lay (by omega) ⟨Nat.zero_le _, hj⟩ (by rw [h.nz1 j hj]; exact hpos _) fun a _ ha e => ?_
  have h1 := h.ord a ha
  have h2 := h.ord j hj
  by_cases g1 : a < k
  · rw [if_pos g1] at e
    by_cases g2 : j < k
    · rw [if_pos g2] at e
      exact h.inj a j ha hj (wn_inj (by omega) (by omega) e)
    · rw [if_neg g2] at e
      exact absurd e.symm vw_ne
  · rw [if_neg g1] at e
    by_cases g2 : j < k
    · rw [if_pos g2] at e
      exact absurd e vw_ne
    · rw [if_neg g2] at e
      exact h.inj a j ha hj (vn_inj (by omega) (by omega) e)
theorem W2.plc (h : W2 c dat nn m ix nz k es t) (hpos : ∀ j, 1 ≤ nn j) {j : Nat} (hj : j < m) : plcE es (if j < k then wnT (ix j) else vnT (ix j)) 0 (nz j : Nat) = ((fW nz j : Int), 0) := by
  have hl := h.lay.len
  have hm := h.m6
  have hp := hpos (ix j)
  have e := h.lay.yes (j := j) (by omega) ⟨Nat.zero_le _, hj⟩
  rw [plc_yes (h.find hpos hj) (by omega) (by rw [e, h.nz1 j hj]; unfold Right; dsimp only; omega), e, Int.add_zero]
theorem W2.rea (h : W2 c dat nn m ix nz k es t) (hpos : ∀ j, 1 ≤ nn j) {j : Nat} (hj : j < m) : reaV es t (if j < k then wnT (ix j) else vnT (ix j)) 0 (nz j : Nat) = (padN (nz j * 32) (dat (ix j)), 0) := by
  have hp := h.plc hpos hj
  rw [rea_yes (by rw [hp]), hp, h.cont j hj]
theorem W2.oth (h : W2 c dat nn m ix nz k es t) (hpos : ∀ j, 1 ≤ nn j) (hk : k < m) : othV es (vnT (ix k)) (wnT (ix k)) = (k, 0) := by
  have hf := h.find hpos hk
  rw [if_neg (Nat.lt_irrefl _)] at hf
  have h6 := h.ord k hk
  refine oth_ok hf (gb_wn (by omega)) (lay_none h.lay fun a _ ha e => ?_)
  have h1 := h.ord a ha
  by_cases g1 : a < k
  · rw [if_pos g1] at e
    have := h.inj a k ha hk (wn_inj (by omega) (by omega) e)
    omega
  · rw [if_neg g1] at e
    exact absurd e vw_ne
theorem W2.ren (h : W2 c dat nn m ix nz k es t) (hpos : ∀ j, 1 ≤ nn j) (hk : k < m) : (renV es t (vnT (ix k)) (wnT (ix k))).1 = 0 ∧ W2 c dat nn m ix nz (k + 1) (renV es t (vnT (ix k)) (wnT (ix k))).2.1 (renV es t (vnT (ix k)) (wnT (ix k))).2.2 := by
  have ho := h.oth hpos hk
  have hl := h.lay.len
  have hm := h.m6
  have hv' := ren_inv h.v t (vnT (ix k)) (wnT (ix k))
  have htl := ren_len es t (vnT (ix k)) (wnT (ix k))
  have hr := ren_yes (t := t) (es := es) (name := vnT (ix k)) (to_ := wnT (ix k)) (by rw [ho]) (by rw [ho]; dsimp only; omega)
  simp only [ho] at hr
  rw [hr] at hv' htl ⊢
  dsimp only at hv' htl ⊢
  refine ⟨rfl, hv', by rw [htl]; exact h.tl, lay_congr (lay_ren h.lay ⟨Nat.zero_le _, hk⟩ (by omega) (wnT (ix k))) (fun j _ _ => ?_), h.ord, h.inj, h.nz1, h.fit, h.m6, fun j hj => ?_⟩
  · by_cases e : j = k
    · subst e; rw [updF_at, if_pos (Nat.lt_succ_self _)]
    · rw [updF_ne _ _ e]
      by_cases g : j < k
      · rw [if_pos g, if_pos (by omega)]
      · rw [if_neg g, if_neg (by omega)]
  · have h8 := fW_ge nz j
    have hjm := fW_mono nz (j := j + 1) (k := m) hj
    rw [fW] at hjm
    have hfit := h.fit
    have hp := hpos (ix j)
    rw [← h.cont j hj]
    have hnz := h.nz1 j hj
    have h8m := fW_ge nz m
    exact rd_wr_apart (f := k) (l := 1) (cap_in h.tl (Nat.le_refl 1) (by omega)) (cap_in h.tl (by omega) (by omega)) (.inl (by omega))
/-- While they are taken away. -/
structure W3 (c m : Nat) (ix nz : Nat → Nat) (k : Nat) (es : List VE) (t : List UInt8) : Prop where
  v : VInv c es
  tl : t.length = c * 32
  lay : LayE (fun j => wnT (ix j)) nz k m es
  ord : ∀ j, j < m → ix j < 6
  inj : ∀ j k, j < m → k < m → ix j = ix k → j = k
  pos : ∀ j, j < m → 1 ≤ nz j
  m6 : m ≤ 6
theorem W2.to3 (h : W2 c dat nn m ix nz m es t) (hpos : ∀ j, 1 ≤ nn j) : W3 c m ix nz 0 es t where
  v := h.v
  tl := h.tl
  lay := lay_congr h.lay (fun j _ hj => (if_pos hj).symm)
  ord := h.ord
  inj := h.inj
  pos j hj := by rw [h.nz1 j hj]; exact hpos _
  m6 := h.m6
theorem W3.del (h : W3 c m ix nz k es t) (hk : k < m) : (delV es t (wnT (ix k))).1 = 0 ∧ W3 c m ix nz (k + 1) (delV es t (wnT (ix k))).2.1 (delV es t (wnT (ix k))).2.2 := by
  have hm := h.m6
  have hf := lay_find h.lay (by omega) ⟨Nat.le_refl k, hk⟩ (h.pos k hk) (fun a _ ha e => h.inj a k ha hk (wn_inj (by have := h.ord a ha; omega) (by have := h.ord k hk; omega) e))
  have hv' := del_inv h.v t (wnT (ix k))
  have htl := del_len es t (wnT (ix k))
  have hd := del_some (t := t) hf
  rw [hd] at hv' htl ⊢
  dsimp only at hv' htl ⊢
  exact ⟨rfl, hv', by rw [htl]; exact h.tl, lay_del h.lay, h.ord, h.inj, h.pos, h.m6⟩
theorem W3.fin (h : W3 c m ix nz m es t) : sumL es = 0 ∧ volsE es = [] := lay_end h.lay
end
end Go.Mo
