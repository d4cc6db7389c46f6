/-
  Volumes, in plain words: no program in sight.
-/
import Derived.Test.YtbbgajjonodlfaaGreatGModelP
import Derived.Test.YtbbgajjonodlfaaGreatGModelU
import Derived.Test.YtbbgajjonodlfaaGreatGEvCrc
import Derived.Test.YtbbgajjonodlfaaGreatGSl26
set_option linter.unusedVariables false
set_option linter.unusedSimpArgs false
namespace Go.Mo
open Go Go.Sl Go.Evl
/-- A volume's entry; of a free one all is zero. -/
structure VE where
  name : List UInt8
  first : Nat
  len : Nat
def VE.zero : VE := ⟨[], 0, 0⟩
def VE.cells (x : VE) : List Value := [strV x.name, intV x.first, intV x.len]
/-- May a name be? -/
noncomputable def gb (l : List UInt8) : Bool := @decide (GoodQ l true) (Classical.propDecidable _)
theorem gb_iff {l : List UInt8} : gb l = true ↔ GoodQ l true := by
  unfold gb
  exact @decide_eq_true_iff _ (Classical.propDecidable _)
theorem gb_eq {l : List UInt8} {r : Bool} (h : GoodQ l r) : r = gb l := by
  cases r with
  | true => exact (gb_iff.2 h).symm
  | false =>
    cases hg : gb l with
    | false => rfl
    | true => cases h.unique (gb_iff.1 hg)
theorem gb_len {l : List UInt8} (h : gb l = true) : 1 ≤ l.length ∧ l.length ≤ 16 := by
  rcases gb_iff.1 h with ⟨_, h⟩ | ⟨_, h⟩
  · cases h
  · exact of_decide_eq_true h.symm
def VE.ok (c : Nat) (x : VE) : Prop := gb x.name = true ∧ 1 ≤ x.len ∧ 8 ≤ x.first ∧ x.first + x.len ≤ c
/-- Have two one name, or share a sector? -/
def VE.meets (x y : VE) : Prop := x.name = y.name ∨ (x.first < y.first + y.len ∧ y.first < x.first + x.len)
instance (x y : VE) : Decidable (x.meets y) := by unfold VE.meets; infer_instance
theorem VE.meets_comm {x y : VE} (h : x.meets y) : y.meets x := by
  rcases h with h | ⟨h1, h2⟩
  · exact .inl h.symm
  · exact .inr ⟨h2, h1⟩
/-- What holds of a store's entries. -/
structure VInv (c : Nat) (es : List VE) : Prop where
  len : es.length = 8
  each : ∀ x ∈ es, x = VE.zero ∨ x.ok c
  apart : ∀ i j (hi : i < es.length) (hj : j < es.length), i ≠ j → 0 < es[i].len → 0 < es[j].len → ¬ VE.meets es[i] es[j]
theorem VInv.get {c : Nat} {es : List VE} (h : VInv c es) {i : Nat} (hi : i < es.length) : es[i] = VE.zero ∨ es[i].ok c := h.each _ (List.getElem_mem hi)
theorem VInv.bound {c : Nat} {es : List VE} (h : VInv c es) {i : Nat} (hi : i < es.length) : es[i].first + es[i].len ≤ c := by
  rcases h.get hi with e | e
  · rw [e]; exact Nat.zero_le _
  · exact e.2.2.2
theorem VInv.name {c : Nat} {es : List VE} (h : VInv c es) {i : Nat} (hi : i < es.length) : es[i].name.length ≤ 16 := by
  rcases h.get hi with e | e
  · rw [e]; exact Nat.zero_le _
  · exact (gb_len e.1).2
theorem VInv.okOf {c : Nat} {es : List VE} (h : VInv c es) {i : Nat} (hi : i < es.length) (hl : 0 < es[i].len) : es[i].ok c := by
  rcases h.get hi with e | e
  · rw [e] at hl; exact absurd hl (Nat.lt_irrefl _)
  · exact e
theorem VInv.zero (c : Nat) : VInv c (List.replicate 8 VE.zero) where
  len := rfl
  each x hx := .inl (List.eq_of_mem_replicate hx)
  apart i j hi hj _ h _ := by
    rw [List.getElem_replicate] at h
    exact absurd h (Nat.lt_irrefl _)
theorem VInv.set {c : Nat} {es : List VE} (h : VInv c es) {i : Nat} {x : VE} (hx : x = VE.zero ∨ (x.ok c ∧ ∀ j (hj : j < es.length), j ≠ i → 0 < es[j].len → ¬ x.meets es[j])) : VInv c (es.set i x) where
  len := by rw [List.length_set, h.len]
  each y hy := by
    rcases List.mem_or_eq_of_mem_set hy with h1 | rfl
    · exact h.each y h1
    · exact hx.imp id (·.1)
  apart a b ha hb hab h1 h2 := by
    simp only [List.length_set] at ha hb
    rw [List.getElem_set] at h1 h2 ⊢
    rw [List.getElem_set]
    by_cases ea : i = a
    · rw [if_pos ea] at h1 ⊢
      rw [if_neg (by omega)] at h2 ⊢
      rcases hx with rfl | hx
      · exact absurd h1 (Nat.lt_irrefl _)
      · exact hx.2 b hb (by omega) h2
    · rw [if_neg ea] at h1 ⊢
      by_cases eb : i = b
      · rw [if_pos eb] at h2 ⊢
        rcases hx with rfl | hx
        · exact absurd h2 (Nat.lt_irrefl _)
        · exact fun hm => hx.2 a ha (by omega) h1 (VE.meets_comm hm)
      · rw [if_neg eb] at h2 ⊢
        exact h.apart a b ha hb hab h1 h2
def geE (es : List VE) (i : Nat) : VE := es.getD i VE.zero
theorem geE_get {es : List VE} {i : Nat} (h : i < es.length) : geE es i = es[i] := by
  unfold geE
  rw [List.getD_eq_getElem?_getD, List.getElem?_eq_getElem h]
  rfl
/-- The volume of a name. -/
def findE (es : List VE) (name : List UInt8) : Option Nat := es.findIdx? fun x => decide (0 < x.len ∧ x.name = name)
theorem findE_some {es : List VE} {name : List UInt8} {i : Nat} (h : i < es.length) (hp : 0 < es[i].len ∧ es[i].name = name) (hb : ∀ k (hk : k < es.length), k < i → ¬ (0 < es[k].len ∧ es[k].name = name)) : findE es name = some i := by
  unfold findE
  rw [List.findIdx?_eq_some_iff_getElem]
  exact ⟨h, decide_eq_true hp, fun j hj => by simpa using hb j (by omega) hj⟩
theorem findE_none {es : List VE} {name : List UInt8} (hb : ∀ k (hk : k < es.length), ¬ (0 < es[k].len ∧ es[k].name = name)) : findE es name = none := by
  unfold findE
  rw [List.findIdx?_eq_none_iff]
  intro x hx
  obtain ⟨i, hi, rfl⟩ := List.getElem_of_mem hx
  exact decide_eq_false (hb i hi)
theorem findE_is {es : List VE} {name : List UInt8} {i : Nat} (h : findE es name = some i) : ∃ hi : i < es.length, 0 < es[i].len ∧ es[i].name = name := by
  unfold findE at h
  rw [List.findIdx?_eq_some_iff_getElem] at h
  obtain ⟨hi, h1, _⟩ := h
  exact ⟨hi, of_decide_eq_true h1⟩
theorem findE_not {es : List VE} {name : List UInt8} (h : findE es name = none) : ∀ k (hk : k < es.length), ¬ (0 < es[k].len ∧ es[k].name = name) := by
  unfold findE at h
  rw [List.findIdx?_eq_none_iff] at h
  intro k hk
  have := h _ (List.getElem_mem hk)
  exact of_decide_eq_false this
/-- The first free entry. -/
def freeI (es : List VE) : Option Nat := es.findIdx? fun x => decide (x.len = 0)
theorem freeI_some {es : List VE} {i : Nat} (h : i < es.length) (hp : es[i].len = 0) (hb : ∀ k (hk : k < es.length), k < i → es[k].len ≠ 0) : freeI es = some i := by
  unfold freeI
  rw [List.findIdx?_eq_some_iff_getElem]
  exact ⟨h, decide_eq_true hp, fun j hj => by simpa using hb j (by omega) hj⟩
theorem freeI_none {es : List VE} (hb : ∀ k (hk : k < es.length), es[k].len ≠ 0) : freeI es = none := by
  unfold freeI
  rw [List.findIdx?_eq_none_iff]
  intro x hx
  obtain ⟨i, hi, rfl⟩ := List.getElem_of_mem hx
  exact decide_eq_false (hb i hi)
theorem freeI_is {es : List VE} {i : Nat} (h : freeI es = some i) : ∃ hi : i < es.length, es[i].len = 0 := by
  unfold freeI at h
  rw [List.findIdx?_eq_some_iff_getElem] at h
  obtain ⟨hi, h1, _⟩ := h
  exact ⟨hi, of_decide_eq_true h1⟩
/-- Is a place of n sectors taken by a volume? -/
def Blk (es : List VE) (n p : Nat) : Prop := ∃ i, ∃ h : i < es.length, 0 < es[i].len ∧ p < es[i].first + es[i].len ∧ es[i].first < p + n
/-- The first place of n sectors that no volume has. -/
def FirstE (es : List VE) (n p : Nat) : Prop := 8 ≤ p ∧ ¬ Blk es n p ∧ ∀ k, 8 ≤ k → k < p → Blk es n k
theorem FirstE.unique {es : List VE} {n p q : Nat} (h : FirstE es n p) (g : FirstE es n q) : p = q := by
  rcases Nat.lt_trichotomy p q with h1 | h1 | h1
  · exact absurd (g.2.2 p h.1 h1) h.2.1
  · exact h1
  · exact absurd (h.2.2 q g.1 h1) g.2.1
open Classical in
noncomputable def roomAt (es : List VE) (n : Nat) : Nat := if h : ∃ p, FirstE es n p then Classical.choose h else 0
theorem FirstE.room {es : List VE} {n p : Nat} (h : FirstE es n p) : roomAt es n = p := by
  unfold roomAt
  rw [dif_pos ⟨p, h⟩]
  exact (Classical.choose_spec ⟨p, h⟩ : FirstE es n _).unique h
/-- A step of the search: what is taken by one entry from p on is taken for all that is ahead of its end. -/
theorem blk_step {es : List VE} {n p i : Nat} (h : ∀ k, 8 ≤ k → k < p → Blk es n k) (hi : i < es.length) (hl : 0 < es[i].len) (h1 : p < es[i].first + es[i].len) (h2 : es[i].first < p + n) : ∀ k, 8 ≤ k → k < es[i].first + es[i].len → Blk es n k := fun k hk hlt => by
  by_cases e : k < p
  · exact h k hk e
  · exact ⟨i, hi, hl, hlt, by omega⟩
/-- All volumes' sectors. -/
def sumL (es : List VE) : Nat := (es.map (·.len)).sum
def volsE (es : List VE) : List VE := es.filter fun x => decide (0 < x.len)
/-- What a store answers where a range of a volume is: the place, the error. -/
def plcE (es : List VE) (name : List UInt8) (at_ n : Int) : Int × Int := match findE es name with
  | none => (0, 4)
  | some i => if Right ((geE es i).len : Nat) at_ n then ((geE es i).first + at_, 0) else (0, 1)
/-- A number's n low bytes. -/
def leN (v n : Nat) : List UInt8 := (List.range n).map fun i => UInt8.ofNat (v >>> (8 * i))
theorem leN_length (v n : Nat) : (leN v n).length = n := by simp [leN]
theorem leN_succ (v n : Nat) : leN v (n + 1) = leN v n ++ [UInt8.ofNat (v >>> (8 * n))] := by simp [leN, List.range_succ]
def hdT (x : VE) : List UInt8 := [86, UInt8.ofNat x.name.length] ++ padN 16 x.name ++ leN x.first 2 ++ leN x.len 2
/-- An entry's sector. -/
def laidT (x : VE) : List UInt8 := hdT x ++ leN (crcOf 0 (hdT x)) 4 ++ List.replicate 6 0
theorem hdT_length (x : VE) : (hdT x).length = 22 := by simp [hdT, leN_length, padN_length]
theorem laidT_length (x : VE) : (laidT x).length = 32 := by simp [laidT, hdT_length, leN_length]
/-- A number told by its bytes, the low ones first. -/
def leV : List UInt8 → Nat
  | [] => 0
  | x :: l => x.toNat + 256 * leV l
theorem leV_lt : ∀ l : List UInt8, leV l < 256 ^ l.length
  | [] => Nat.one_pos
  | x :: l => by
    have h1 := x.toNat_lt
    have h2 := leV_lt l
    rw [leV, List.length_cons, Nat.pow_succ]
    omega
theorem leV_snoc : ∀ (l : List UInt8) (x : UInt8), leV (l ++ [x]) = leV l + 256 ^ l.length * x.toNat
  | [], x => by simp [leV]
  | y :: l, x => by
    rw [List.cons_append, leV, leV, leV_snoc l x, List.length_cons, Nat.pow_succ, Nat.mul_add, Nat.add_assoc, ← Nat.mul_assoc, Nat.mul_comm 256 (256 ^ l.length)]
/-- The bytes of a sector from i on. -/
def piece (b : List UInt8) (i n : Nat) : List UInt8 := (b.take (i + n)).drop i
/-- What a sector says. -/
def saysT (b : List UInt8) : VE := ⟨piece b 2 (b.getD 1 0).toNat, leV (piece b 18 2), leV (piece b 20 2)⟩
open Classical in
/-- The entry that a sector is; of what is none all is zero. -/
noncomputable def rdE (c : Nat) (b : List UInt8) : VE := if (b.getD 1 0).toNat ≤ 16 ∧ b = laidT (saysT b) ∧ (saysT b).ok c then saysT b else VE.zero
theorem rdE_ok (c : Nat) (b : List UInt8) : rdE c b = VE.zero ∨ (rdE c b).ok c := by
  unfold rdE
  split
  · rename_i h; exact .inr h.2.2
  · exact .inl rfl
def secT (t : List UInt8) (k : Nat) : List UInt8 := (t.take ((k + 1) * 32)).drop (k * 32)
open Classical in
/-- The entries of a disk, the first k of them. -/
noncomputable def opE (c : Nat) (t : List UInt8) : Nat → List VE
  | 0 => []
  | k + 1 => if ∃ y ∈ volsE (opE c t k), (rdE c (secT t k)).meets y then opE c t k ++ [VE.zero] else opE c t k ++ [rdE c (secT t k)]
theorem opE_length (c : Nat) (t : List UInt8) : ∀ k, (opE c t k).length = k
  | 0 => rfl
  | k + 1 => by
    rw [opE]
    split <;> simp [opE_length c t k]
end Go.Mo
namespace Go.Mo
open Go Go.Sl Go.Evl
open Classical in
noncomputable def creV (c : Nat) (es : List VE) (t name : List UInt8) (n : Int) : Int × List VE × List UInt8 :=
  if gb name = true ∧ 1 ≤ n ∧ n ≤ 512 then
    match findE es name with
    | some _ => (8, es, t)
    | none => match freeI es with
      | none => (5, es, t)
      | some i => if roomAt es n.toNat + n.toNat ≤ c then (0, es.set i ⟨name, roomAt es n.toNat, n.toNat⟩, wrT (wrT t (roomAt es n.toNat) n []) i 1 (laidT ⟨name, roomAt es n.toNat, n.toNat⟩)) else (5, es, t)
  else (1, es, t)
def delV (es : List VE) (t name : List UInt8) : Int × List VE × List UInt8 := match findE es name with
  | none => (4, es, t)
  | some i => (0, es.set i VE.zero, wrT t i 1 [])
/-- A volume, and a name that another one is to have. -/
noncomputable def othV (es : List VE) (name to_ : List UInt8) : Nat × Int := match findE es name with
  | none => (0, 4)
  | some i => if gb to_ = true then (match findE es to_ with | some _ => (0, 8) | none => (i, 0)) else (0, 1)
noncomputable def renV (es : List VE) (t name to_ : List UInt8) : Int × List VE × List UInt8 :=
  if (othV es name to_).2 = 0 then (0, es.set (othV es name to_).1 ⟨to_, (geE es (othV es name to_).1).first, (geE es (othV es name to_).1).len⟩, wrT t (othV es name to_).1 1 (laidT ⟨to_, (geE es (othV es name to_).1).first, (geE es (othV es name to_).1).len⟩))
  else ((othV es name to_).2, es, t)
/-- A copy of x under another name. -/
noncomputable def cloW (c : Nat) (es : List VE) (t to_ : List UInt8) (x : VE) : Int × List VE × List UInt8 := match freeI es with
  | none => (5, es, t)
  | some i => if roomAt es x.len + x.len ≤ c then (0, es.set i ⟨to_, roomAt es x.len, x.len⟩, wrT (wrT t (roomAt es x.len) x.len (rdT t x.first x.len)) i 1 (laidT ⟨to_, roomAt es x.len, x.len⟩)) else (5, es, t)
noncomputable def cloV (c : Nat) (es : List VE) (t name to_ : List UInt8) : Int × List VE × List UInt8 :=
  if (othV es name to_).2 = 0 then cloW c es t to_ (geE es (othV es name to_).1) else ((othV es name to_).2, es, t)
def reaV (es : List VE) (t name : List UInt8) (at_ n : Int) : List UInt8 × Int := if (plcE es name at_ n).2 = 0 then (rdT t (plcE es name at_ n).1 n, 0) else ([], (plcE es name at_ n).2)
def wriV (es : List VE) (t name : List UInt8) (at_ n : Int) (data : List UInt8) : Int × List UInt8 := if (plcE es name at_ n).2 = 0 then (0, wrT t (plcE es name at_ n).1 n data) else ((plcE es name at_ n).2, t)

theorem set_pad {es : List VE} {k : Nat} (hk : k < 8) (hl : es.length = k) (x : VE) : es ++ [x] ++ List.replicate (8 - (k + 1)) VE.zero = (es ++ List.replicate (8 - k) VE.zero).set k x := by
  rw [List.set_append_right _ _ (by omega), hl, Nat.sub_self, show 8 - k = (8 - (k + 1)) + 1 from by omega, List.replicate_succ, List.set_cons_zero, List.append_assoc]
  rfl
theorem vols_pad (es : List VE) (n : Nat) : volsE (es ++ List.replicate n VE.zero) = volsE es := by
  unfold volsE
  rw [List.filter_append, List.filter_replicate]
  simp [VE.zero]
theorem op_inv (c : Nat) (t : List UInt8) : ∀ k, k ≤ 8 → VInv c (opE c t k ++ List.replicate (8 - k) VE.zero)
  | 0, _ => VInv.zero c
  | k + 1, h => by
    have ih := op_inv c t k (by omega)
    have hl := opE_length c t k
    rw [opE]
    split
    · rw [set_pad (by omega) hl]
      exact ih.set (.inl rfl)
    · rename_i hm
      rw [set_pad (by omega) hl]
      refine ih.set ?_
      rcases rdE_ok c (secT t k) with e | e
      · exact .inl e
      refine .inr ⟨e, fun j hj hne hlen hmt => hm ⟨_, ?_, hmt⟩⟩
      have hv := vols_pad (opE c t k) (8 - k)
      rw [← hv]
      exact List.mem_filter.2 ⟨List.getElem_mem hj, decide_eq_true hlen⟩
theorem op_inv8 (c : Nat) (t : List UInt8) : VInv c (opE c t 8) := by
  have := op_inv c t 8 (Nat.le_refl _)
  simpa using this
theorem room_apart {es : List VE} {n : Nat} {p : Nat} (h : FirstE es n p) {j : Nat} (hj : j < es.length) (hl : 0 < es[j].len) : ¬ (p < es[j].first + es[j].len ∧ es[j].first < p + n) := fun hm => h.2.1 ⟨j, hj, hl, hm.1, hm.2⟩
/-- A new volume keeps the order. -/
theorem new_inv {c : Nat} {es : List VE} (h : VInv c es) {name : List UInt8} {n i : Nat} (hg : gb name = true) (hn : 1 ≤ n) (hf : findE es name = none) (hF : FirstE es n (roomAt es n)) (hr : roomAt es n + n ≤ c) : VInv c (es.set i ⟨name, roomAt es n, n⟩) := by
  refine h.set (.inr ⟨⟨hg, hn, hF.1, hr⟩, fun j hj _ hl hm => ?_⟩)
  rcases hm with hm | hm
  · exact findE_not hf j hj ⟨hl, hm.symm⟩
  · exact room_apart hF hj hl hm
theorem cre_inv {c : Nat} {es : List VE} (h : VInv c es) (hF : ∀ n, ∃ p, FirstE es n p) (t name : List UInt8) (n : Int) : VInv c (creV c es t name n).2.1 := by
  have hR : ∀ n, FirstE es n (roomAt es n) := fun n => by obtain ⟨p, hp⟩ := hF n; rw [hp.room]; exact hp
  unfold creV
  split
  · rename_i h1
    split
    · exact h
    · rename_i hf
      split
      · exact h
      · split
        · rename_i hr
          exact new_inv h h1.1 (by omega) hf (hR _) hr
        · exact h
  · exact h
theorem del_inv {c : Nat} {es : List VE} (h : VInv c es) (t name : List UInt8) : VInv c (delV es t name).2.1 := by
  unfold delV
  split
  · exact h
  · exact h.set (.inl rfl)
theorem oth_is {es : List VE} {name to_ : List UInt8} (h : (othV es name to_).2 = 0) : ∃ i, findE es name = some i ∧ gb to_ = true ∧ findE es to_ = none ∧ (othV es name to_).1 = i := by
  unfold othV at h ⊢
  cases hf : findE es name with
  | none => rw [hf] at h; cases h
  | some i =>
    rw [hf] at h
    dsimp only at h ⊢
    by_cases hg : gb to_ = true
    · rw [if_pos hg] at h ⊢
      cases hf2 : findE es to_ with
      | some _ => rw [hf2] at h; cases h
      | none => exact ⟨i, rfl, hg, rfl, rfl⟩
    · rw [if_neg hg] at h; cases h
theorem ren_inv {c : Nat} {es : List VE} (h : VInv c es) (t name to_ : List UInt8) : VInv c (renV es t name to_).2.1 := by
  unfold renV
  split
  · rename_i h0
    obtain ⟨i, hf, hg, hf2, e⟩ := oth_is h0
    rw [e]
    obtain ⟨hi, h1, h2⟩ := findE_is hf
    have hok := h.okOf hi h1
    dsimp only
    rw [geE_get hi]
    refine h.set (.inr ⟨⟨hg, hok.2.1, hok.2.2.1, hok.2.2.2⟩, fun j hj hne hl hm => ?_⟩)
    rcases hm with hm | hm
    · exact findE_not hf2 j hj ⟨hl, hm.symm⟩
    · exact h.apart i j hi hj (by omega) h1 hl (.inr hm)
  · exact h
theorem clo_inv {c : Nat} {es : List VE} (h : VInv c es) (hF : ∀ n, ∃ p, FirstE es n p) (t name to_ : List UInt8) : VInv c (cloV c es t name to_).2.1 := by
  have hR : ∀ n, FirstE es n (roomAt es n) := fun n => by obtain ⟨p, hp⟩ := hF n; rw [hp.room]; exact hp
  unfold cloV
  split
  · rename_i h0
    obtain ⟨i, hf, hg, hf2, e⟩ := oth_is h0
    rw [e]
    obtain ⟨hi, h1, h2⟩ := findE_is hf
    rw [geE_get hi]
    unfold cloW
    split
    · exact h
    · split
      · rename_i hr
        exact new_inv h hg h1 hf2 (hR _) hr
      · exact h
  · exact h
/-- There is always a first place. -/
theorem first_ex {c : Nat} {es : List VE} (h : VInv c es) (n : Nat) : ∃ p, FirstE es n p := by
  have key : ∀ m p, 8 ≤ p → (∀ k, 8 ≤ k → k < p → Blk es n k) → c + 8 - p ≤ m → ∃ p, FirstE es n p := by
    intro m
    induction m with
    | zero =>
      intro p hp hb hm
      refine ⟨p, hp, fun ⟨i, hi, hl, h1, h2⟩ => ?_, hb⟩
      have := h.bound hi
      omega
    | succ m ih =>
      intro p hp hb hm
      by_cases hB : Blk es n p
      · exact ih (p + 1) (by omega) (fun k hk hlt => by
          by_cases e : k = p
          · rw [e]; exact hB
          · exact hb k hk (by omega)) (by omega)
      · exact ⟨p, hp, hB, hb⟩
  exact key (c + 8) 8 (Nat.le_refl _) (fun k h1 h2 => by omega) (by omega)
end Go.Mo
namespace Go.Mo
open Go Go.Sl Go.Evl
def flE (es : List VE) : List Value := (es.map VE.cells).flatten
/-- A store's cells. -/
def stC (TP a c : Nat) (es : List VE) : List Value := .iface TP (ptr a 0) :: intV c :: flE es
theorem VE.cells_length (x : VE) : x.cells.length = 3 := rfl
theorem VE.cells_one (x : VE) : ∀ u ∈ x.cells, u.oneCell' = true := by
  intro u hu
  simp only [VE.cells, List.mem_cons, List.not_mem_nil, or_false] at hu
  rcases hu with rfl | rfl | rfl <;> rfl
theorem flE_cons (x : VE) (es : List VE) : flE (x :: es) = x.cells ++ flE es := by simp [flE]
theorem flE_append (xs ys : List VE) : flE (xs ++ ys) = flE xs ++ flE ys := by simp [flE]
theorem flE_length : ∀ es : List VE, (flE es).length = es.length * 3
  | [] => rfl
  | x :: es => by
    rw [flE_cons, List.length_append, flE_length es, VE.cells_length, List.length_cons]
    omega
theorem flE_drop : ∀ (es : List VE) (j : Nat), (flE es).drop (j * 3) = flE (es.drop j)
  | es, 0 => by simp
  | [], j + 1 => by simp [flE]
  | x :: es, j + 1 => by
    rw [flE_cons, List.drop_succ_cons, ← flE_drop es j, List.drop_append, VE.cells_length, List.drop_eq_nil_of_le (by rw [VE.cells_length]; omega), List.nil_append, show (j + 1) * 3 - 3 = j * 3 from by omega]
theorem flE_get {es : List VE} {j : Nat} (h : j < es.length) : ((flE es).drop (j * 3)).take 3 = es[j].cells := by
  rw [flE_drop, List.drop_eq_getElem_cons h, flE_cons]
  exact List.take_left' rfl
theorem stC_length {TP a c : Nat} {es : List VE} (h : es.length = 8) : (stC TP a c es).length = 26 := by
  show (flE es).length + 1 + 1 = 26
  rw [flE_length]; omega
theorem stC_all {TP a c : Nat} {es : List VE} (h : es.length = 8) : ((stC TP a c es).drop (0 + 2)).take 24 = flE es := by
  show (flE es).take 24 = flE es
  exact List.take_of_length_le (by rw [flE_length]; omega)
theorem stC_drop {TP a c : Nat} {es : List VE} (i : Nat) : (stC TP a c es).drop (0 + 2 + i * 3) = (flE es).drop (i * 3) := by
  rw [show 0 + 2 + i * 3 = i * 3 + 1 + 1 from by omega]
  rfl
theorem stC_get {TP a c : Nat} {es : List VE} {i : Nat} (h : i < es.length) : ((stC TP a c es).drop (0 + 2 + i * 3)).take 3 = es[i].cells := by
  rw [stC_drop, flE_get h]
theorem flE_set : ∀ {es : List VE} {i : Nat} (x : VE), i < es.length → (flE es).take (i * 3) ++ x.cells ++ (flE es).drop ((i + 1) * 3) = flE (es.set i x)
  | [], i, x, h => absurd h (Nat.not_lt_zero _)
  | y :: es, 0, x, h => by
    rw [List.set_cons_zero, flE_cons, flE_cons]
    rfl
  | y :: es, i + 1, x, h => by
    rw [List.set_cons_succ, flE_cons, flE_cons, ← flE_set x (by simpa using h), List.take_append, List.drop_append, VE.cells_length, List.take_of_length_le (by rw [VE.cells_length]; omega), List.drop_eq_nil_of_le (by rw [VE.cells_length]; omega), List.nil_append, show (i + 1) * 3 - 3 = i * 3 from by omega, show (i + 1 + 1) * 3 - 3 = (i + 1) * 3 from by omega]
    simp only [List.append_assoc]
theorem stC_lay {TP a c : Nat} {es : List VE} {i : Nat} (x : VE) (h : i < es.length) : lay (stC TP a c es) (0 + 2 + i * 3) x.cells = stC TP a c (es.set i x) := by
  have hl : (stC TP a c es).length = es.length * 3 + 2 := by show (flE es).length + 1 + 1 = _; rw [flE_length]
  rw [lay_eq _ _ _ (by rw [hl, VE.cells_length]; omega), VE.cells_length, show 0 + 2 + i * 3 + 3 = 0 + 2 + (i + 1) * 3 from by omega, stC_drop, show 0 + 2 + i * 3 = i * 3 + 1 + 1 from by omega]
  show _ :: _ :: ((flE es).take (i * 3)) ++ x.cells ++ (flE es).drop ((i + 1) * 3) = _
  rw [stC, ← flE_set x h]
  rfl
theorem vols_take {es : List VE} {k : Nat} (h : k < es.length) : volsE (es.take (k + 1)) = if 0 < es[k].len then volsE (es.take k) ++ [es[k]] else volsE (es.take k) := by
  unfold volsE
  rw [List.take_succ_eq_append_getElem h, List.filter_append]
  by_cases hl : 0 < es[k].len
  · rw [if_pos hl]; simp [hl]
  · rw [if_neg hl]; simp [hl]
theorem vols_len (es : List VE) : (volsE es).length ≤ es.length := List.length_filter_le _ _
/-- The number of the first free entry, or -1. -/
def freeZ (es : List VE) : Int := match freeI es with | some i => (i : Int) | none => -1
theorem freeZ_some {es : List VE} {i : Nat} (h : freeI es = some i) : freeZ es = i := by unfold freeZ; rw [h]
theorem freeZ_none {es : List VE} (h : freeI es = none) : freeZ es = -1 := by unfold freeZ; rw [h]
theorem sumL_take {es : List VE} {k : Nat} (h : k < es.length) : sumL (es.take (k + 1)) = sumL (es.take k) + es[k].len := by
  unfold sumL
  rw [List.take_succ_eq_append_getElem h, List.map_append, List.sum_append]
  rfl
theorem sumL_le {c : Nat} {es : List VE} (h : VInv c es) : ∀ k, k ≤ 8 → sumL (es.take k) ≤ k * c
  | 0, _ => by simp [sumL]
  | k + 1, hk => by
    have hl := h.len
    rw [sumL_take (by omega), Nat.succ_mul]
    have h1 := sumL_le h k (by omega)
    have h2 := h.bound (i := k) (by omega)
    omega
end Go.Mo
namespace Go.Mo
open Go Go.Sl Go.Evl
theorem erE_yes {t : List UInt8} {lba n : Int} (h : Right (t.length / 32 : Nat) lba n) : erT t lba n = 0 := by unfold erT; rw [if_pos h]
theorem cap_of {t : List UInt8} {c : Nat} (h : t.length = c * 32) : t.length / 32 = c := by rw [h]; exact Nat.mul_div_cancel c (by decide)
section
variable {es : List VE} {t name to_ : List UInt8} {at_ n : Int} {c i : Nat}
theorem plc_none (hf : findE es name = none) : plcE es name at_ n = (0, 4) := by unfold plcE; rw [hf]
theorem plc_no (hf : findE es name = some i) (hi : i < es.length) (h : ¬ Right (es[i].len : Nat) at_ n) : plcE es name at_ n = (0, 1) := by
  unfold plcE; rw [hf]; dsimp only; rw [geE_get hi, if_neg h]
theorem plc_yes (hf : findE es name = some i) (hi : i < es.length) (h : Right (es[i].len : Nat) at_ n) : plcE es name at_ n = (es[i].first + at_, 0) := by
  unfold plcE; rw [hf]; dsimp only; rw [geE_get hi, if_pos h]
theorem plc_is (h : (plcE es name at_ n).2 = 0) : ∃ i, ∃ hi : i < es.length, findE es name = some i ∧ Right (es[i].len : Nat) at_ n ∧ (plcE es name at_ n).1 = es[i].first + at_ := by
  cases hf : findE es name with
  | none => rw [plc_none hf] at h; cases h
  | some i =>
    obtain ⟨hi, _, _⟩ := findE_is hf
    by_cases hR : Right (es[i].len : Nat) at_ n
    · exact ⟨i, hi, rfl, hR, by rw [plc_yes hf hi hR]⟩
    · rw [plc_no hf hi hR] at h; cases h
theorem plc_right (hv : VInv c es) (h : (plcE es name at_ n).2 = 0) : Right c (plcE es name at_ n).1 n := by
  obtain ⟨i, hi, _, hR, e⟩ := plc_is h
  rw [e]
  have hb := hv.bound hi
  unfold Right at hR ⊢
  omega
theorem oth_none (hf : findE es name = none) : othV es name to_ = (0, 4) := by unfold othV; rw [hf]
theorem oth_bad (hf : findE es name = some i) (hg : ¬ gb to_ = true) : othV es name to_ = (0, 1) := by unfold othV; rw [hf]; dsimp only; rw [if_neg hg]
theorem oth_two {j : Nat} (hf : findE es name = some i) (hg : gb to_ = true) (hf2 : findE es to_ = some j) : othV es name to_ = (0, 8) := by unfold othV; rw [hf]; dsimp only; rw [if_pos hg, hf2]
theorem oth_ok (hf : findE es name = some i) (hg : gb to_ = true) (hf2 : findE es to_ = none) : othV es name to_ = (i, 0) := by unfold othV; rw [hf]; dsimp only; rw [if_pos hg, hf2]
theorem del_none (hf : findE es name = none) : delV es t name = (4, es, t) := by unfold delV; rw [hf]
theorem del_some (hf : findE es name = some i) : delV es t name = (0, es.set i VE.zero, wrT t i 1 []) := by unfold delV; rw [hf]
theorem rea_no (h : (plcE es name at_ n).2 ≠ 0) : reaV es t name at_ n = ([], (plcE es name at_ n).2) := by unfold reaV; rw [if_neg h]
theorem rea_yes (h : (plcE es name at_ n).2 = 0) : reaV es t name at_ n = (rdT t (plcE es name at_ n).1 n, 0) := by unfold reaV; rw [if_pos h]
theorem wri_no {data : List UInt8} (h : (plcE es name at_ n).2 ≠ 0) : wriV es t name at_ n data = ((plcE es name at_ n).2, t) := by unfold wriV; rw [if_neg h]
theorem wri_yes {data : List UInt8} (h : (plcE es name at_ n).2 = 0) : wriV es t name at_ n data = (0, wrT t (plcE es name at_ n).1 n data) := by unfold wriV; rw [if_pos h]
theorem ren_no (h : (othV es name to_).2 ≠ 0) : renV es t name to_ = ((othV es name to_).2, es, t) := by unfold renV; rw [if_neg h]
theorem ren_yes (h : (othV es name to_).2 = 0) (hi : (othV es name to_).1 < es.length) : renV es t name to_ = (0, es.set (othV es name to_).1 ⟨to_, es[(othV es name to_).1].first, es[(othV es name to_).1].len⟩, wrT t (othV es name to_).1 1 (laidT ⟨to_, es[(othV es name to_).1].first, es[(othV es name to_).1].len⟩)) := by
  unfold renV; rw [if_pos h, geE_get hi]
theorem oth_lt (h : (othV es name to_).2 = 0) : ∃ hi : (othV es name to_).1 < es.length, 0 < es[(othV es name to_).1].len ∧ gb to_ = true := by
  obtain ⟨i, hf, hg, hf2, e⟩ := oth_is h
  obtain ⟨hi, h1, _⟩ := findE_is hf
  subst e
  exact ⟨hi, h1, hg⟩
theorem free_of (h : 0 ≤ freeZ es) : ∃ i, freeI es = some i ∧ freeZ es = i := by
  cases hf : freeI es with
  | none => rw [freeZ_none hf] at h; omega
  | some i => exact ⟨i, rfl, freeZ_some hf⟩
theorem cre_bad (h : ¬ (gb name = true ∧ 1 ≤ n ∧ n ≤ 512)) : creV c es t name n = (1, es, t) := by unfold creV; rw [if_neg h]
theorem cre_two {j : Nat} (h : gb name = true ∧ 1 ≤ n ∧ n ≤ 512) (hf : findE es name = some j) : creV c es t name n = (8, es, t) := by unfold creV; rw [if_pos h, hf]
theorem cre_full {m : Nat} (h : gb name = true ∧ 1 ≤ (m : Int) ∧ (m : Int) ≤ 512) (hf : findE es name = none) (hr : ¬ (0 ≤ freeZ es ∧ roomAt es m + m ≤ c)) : creV c es t name m = (5, es, t) := by
  unfold creV
  rw [if_pos h, hf]
  dsimp only
  cases hi : freeI es with
  | none => rfl
  | some i =>
    dsimp only
    rw [Int.toNat_natCast, if_neg (fun g => hr ⟨by rw [freeZ_some hi]; omega, g⟩)]
theorem cre_ok {m : Nat} (h : gb name = true ∧ 1 ≤ (m : Int) ∧ (m : Int) ≤ 512) (hf : findE es name = none) (hi : freeI es = some i) (hr : roomAt es m + m ≤ c) : creV c es t name m = (0, es.set i ⟨name, roomAt es m, m⟩, wrT (wrT t (roomAt es m : Nat) m []) i 1 (laidT ⟨name, roomAt es m, m⟩)) := by
  unfold creV
  rw [if_pos h, hf]
  dsimp only
  rw [hi]
  dsimp only
  rw [Int.toNat_natCast, if_pos hr]
theorem clo_no (h : (othV es name to_).2 ≠ 0) : cloV c es t name to_ = ((othV es name to_).2, es, t) := by unfold cloV; rw [if_neg h]
theorem clo_full (h : (othV es name to_).2 = 0) (hk : (othV es name to_).1 < es.length) (hr : ¬ (0 ≤ freeZ es ∧ roomAt es es[(othV es name to_).1].len + es[(othV es name to_).1].len ≤ c)) : cloV c es t name to_ = (5, es, t) := by
  unfold cloV cloW
  rw [if_pos h, geE_get hk]
  cases hi : freeI es with
  | none => rfl
  | some i =>
    dsimp only
    rw [if_neg (fun g => hr ⟨by rw [freeZ_some hi]; omega, g⟩)]
theorem clo_ok (h : (othV es name to_).2 = 0) (hk : (othV es name to_).1 < es.length) (hi : freeI es = some i) (hr : roomAt es es[(othV es name to_).1].len + es[(othV es name to_).1].len ≤ c) :
    cloV c es t name to_ = (0, es.set i ⟨to_, roomAt es es[(othV es name to_).1].len, es[(othV es name to_).1].len⟩, wrT (wrT t (roomAt es es[(othV es name to_).1].len : Nat) es[(othV es name to_).1].len (rdT t es[(othV es name to_).1].first es[(othV es name to_).1].len)) i 1 (laidT ⟨to_, roomAt es es[(othV es name to_).1].len, es[(othV es name to_).1].len⟩)) := by
  unfold cloV cloW
  rw [if_pos h, geE_get hk, hi]
  dsimp only
  rw [if_pos hr]
end
theorem find_getD {es : List VE} {name : List UInt8} {i : Nat} (h : findE es name = some i) : (findE es name).getD 0 = i := by rw [h]; rfl
end Go.Mo
namespace Go.Mo
open Go Go.Sl Go.Evl
/-- The entries found so far, the others free. -/
noncomputable def opP (c : Nat) (t : List UInt8) (k : Nat) : List VE := opE c t k ++ List.replicate (8 - k) VE.zero
theorem opP_len {c : Nat} {t : List UInt8} {k : Nat} (h : k ≤ 8) : (opP c t k).length = 8 := by
  unfold opP; rw [List.length_append, opE_length, List.length_replicate]; omega
theorem opP_inv {c : Nat} {t : List UInt8} {k : Nat} (h : k ≤ 8) : VInv c (opP c t k) := op_inv c t k h
theorem opP_all {c : Nat} {t : List UInt8} : opP c t 8 = opE c t 8 := by unfold opP; simp
theorem rdE_zero {c : Nat} {b : List UInt8} (h : (rdE c b).len = 0) : rdE c b = VE.zero := by
  rcases rdE_ok c b with e | e
  · exact e
  · exact absurd e.2.1 (by omega)
theorem opP_skip0 {c : Nat} {t : List UInt8} {k : Nat} (hk : k < 8) (h : opE c t (k + 1) = opE c t k ++ [VE.zero]) : opP c t k = opP c t (k + 1) := by
  unfold opP
  rw [h, set_pad hk (opE_length c t k)]
  apply List.ext_getElem?
  intro i
  rw [List.getElem?_set]
  split
  · rename_i e
    subst e
    have hl := opE_length c t k
    rw [List.getElem?_append_right (by omega), hl, Nat.sub_self, List.getElem?_replicate, if_pos (by omega), if_pos (by simp; omega)]
  · rfl
theorem opE_no {c : Nat} {t : List UInt8} {k : Nat} (h : (rdE c (secT t k)).len = 0) : opE c t (k + 1) = opE c t k ++ [VE.zero] := by
  rw [opE]
  split
  · rfl
  · rw [rdE_zero h]
theorem opE_meet {c : Nat} {t : List UInt8} {k j : Nat} (hj : j < (volsE (opE c t k)).length) (h : (rdE c (secT t k)).meets (volsE (opE c t k))[j]) : opE c t (k + 1) = opE c t k ++ [VE.zero] := by
  rw [opE, if_pos ⟨_, List.getElem_mem hj, h⟩]
theorem opE_new {c : Nat} {t : List UInt8} {k : Nat} (h : ∀ j (hj : j < (volsE (opE c t k)).length), ¬ (rdE c (secT t k)).meets (volsE (opE c t k))[j]) : opE c t (k + 1) = opE c t k ++ [rdE c (secT t k)] := by
  rw [opE, if_neg]
  rintro ⟨y, hy, hm⟩
  obtain ⟨j, hj, rfl⟩ := List.getElem_of_mem hy
  exact h j hj hm
theorem opP_new {c : Nat} {t : List UInt8} {k : Nat} (hk : k < 8) (h : opE c t (k + 1) = opE c t k ++ [rdE c (secT t k)]) : (opP c t k).set k (rdE c (secT t k)) = opP c t (k + 1) := by
  unfold opP
  rw [h, set_pad hk (opE_length c t k)]
theorem opP_vols (c : Nat) (t : List UInt8) (k : Nat) : volsE (opP c t k) = volsE (opE c t k) := vols_pad _ _
theorem vols_bound {c : Nat} {es : List VE} (h : VInv c es) {j : Nat} (hj : j < (volsE es).length) : (volsE es)[j].ok c ∧ 0 < (volsE es)[j].len := by
  have hm := List.mem_filter.1 (List.getElem_mem hj)
  have hl := of_decide_eq_true hm.2
  rcases h.each _ hm.1 with e | e
  · rw [e] at hl; exact absurd hl (Nat.lt_irrefl _)
  · exact ⟨e, hl⟩
theorem rdE_bound (c : Nat) (b : List UInt8) : (rdE c b).first + (rdE c b).len ≤ c := by
  rcases rdE_ok c b with e | e
  · rw [e]; exact Nat.zero_le _
  · exact e.2.2.2
theorem sec_len {t : List UInt8} {k : Nat} (h : (k + 1) * 32 ≤ t.length) : (secT t k).length = 32 := by
  unfold secT; rw [List.length_drop, List.length_take]; omega
theorem sec_rd {t : List UInt8} {k : Nat} (hk : k < 8) (hR : Right (t.length / 32 : Nat) 0 8) : ((rdT t 0 8).take ((k + 1) * 32)).drop (k * 32) = secT t k := by
  unfold rdT secT
  rw [if_pos hR]
  show ((((t.drop 0).take 256).take ((k + 1) * 32))).drop (k * 32) = _
  rw [List.drop_zero, List.take_take, Nat.min_eq_left (by omega)]
theorem flE_getR {es : List VE} {j : Nat} {rest : List Value} (h : j < es.length) : ((flE es ++ rest).drop (0 + j * 3)).take 3 = es[j].cells := by
  have hl := flE_length es
  rw [Nat.zero_add, List.drop_append_of_le_length (by omega), List.take_append_of_le_length (by rw [List.length_drop]; omega), flE_get h]
/-- A script's step. -/
structure VAct where
  op : Int
  a : Int
  b : Int
  at_ : Int
  n : Int
  data : List UInt8
def VAct.cells (x : VAct) : List Value := [.int .i64 x.op, .int .i64 x.a, .int .i64 x.b, .int .i64 x.at_, .int .i64 x.n, strV x.data]
/-- Names by number. -/
def names25 : List (List UInt8) := [[97], [98], [195, 169], [108, 111, 110, 103, 32, 110, 97, 109, 101], [115, 105, 120, 116, 101, 101, 110, 45, 98, 121, 116, 101, 115, 45, 120, 120], [115, 101, 118, 101, 110, 116, 101, 101, 110, 45, 98, 121, 116, 101, 115, 45, 120], [], [99], [100], [101]]
def nmT (n : Int) : List UInt8 := names25.getD (n % 8).toNat []
theorem nm_get (n : Int) : (names25.map strV)[0 + (n % 8).toNat]? = some (strV (nmT n)) := by
  have h : (n % 8).toNat < names25.length := by show _ < 10; omega
  unfold nmT
  rw [Nat.zero_add, List.getElem?_map, List.getD_eq_getElem?_getD, List.getElem?_eq_getElem h]
  rfl
/-- What a step reads, answers, and leaves. -/
noncomputable def stepV (c : Nat) (es : List VE) (t : List UInt8) (x : VAct) : List UInt8 × Int × List VE × List UInt8 :=
  if x.op = 0 then ([], creV c es t (nmT x.a) x.n)
  else if x.op = 1 then ([], delV es t (nmT x.a))
  else if x.op = 2 then ([], renV es t (nmT x.a) (nmT x.b))
  else if x.op = 3 then ([], cloV c es t (nmT x.a) (nmT x.b))
  else if x.op = 4 then ([], (wriV es t (nmT x.a) x.at_ x.n x.data).1, es, (wriV es t (nmT x.a) x.at_ x.n x.data).2)
  else if x.op = 5 then ((reaV es t (nmT x.a) x.at_ x.n).1, (reaV es t (nmT x.a) x.at_ x.n).2, es, t)
  else ([], 0, es, t)
end Go.Mo
namespace Go.Mo
open Go Go.Sl Go.Evl
theorem wrT_get {t : List UInt8} {f l : Nat} {d : List UInt8} (h : Right (t.length / 32 : Nat) f l) (p : Nat) : (wrT t f l d)[p]? = if f * 32 ≤ p ∧ p < (f + l) * 32 then (padN (l * 32) d)[p - f * 32]? else t[p]? := by
  unfold wrT
  rw [if_pos h]
  unfold Right at h
  have hl : (f + l) * 32 ≤ t.length := by omega
  simp only [Int.toNat_natCast]
  have h1 : (t.take (f * 32)).length = f * 32 := by rw [List.length_take]; omega
  have h2 : (padN (l * 32) d).length = l * 32 := padN_length _ _
  by_cases a : p < f * 32
  · rw [if_neg (by omega), List.append_assoc, List.getElem?_append_left (by omega), List.getElem?_take_of_lt a]
  · by_cases b : p < (f + l) * 32
    · rw [if_pos ⟨by omega, b⟩, List.append_assoc, List.getElem?_append_right (by omega), h1, List.getElem?_append_left (by omega)]
    · rw [if_neg (by omega), List.getElem?_append_right (by rw [List.length_append]; omega), List.length_append, h1, h2, List.getElem?_drop]
      congr 1
      omega
theorem rdT_get {t : List UInt8} {f l : Nat} (h : Right (t.length / 32 : Nat) f l) (p : Nat) : (rdT t f l)[p]? = if p < l * 32 then t[f * 32 + p]? else none := by
  unfold rdT
  rw [if_pos h, Int.toNat_natCast, Int.toNat_natCast]
  by_cases a : p < l * 32
  · rw [if_pos a, List.getElem?_take_of_lt a, List.getElem?_drop]
  · rw [if_neg a, List.getElem?_eq_none (by rw [List.length_take]; omega)]
/-- What is written elsewhere is not read. -/
theorem rd_wr_apart {t : List UInt8} {f l g m : Nat} {d : List UInt8} (h : Right (t.length / 32 : Nat) f l) (k : Right (t.length / 32 : Nat) g m) (ha : f + l ≤ g ∨ g + m ≤ f) : rdT (wrT t f l d) g m = rdT t g m := by
  apply List.ext_getElem?
  intro p
  rw [rdT_get (by rw [wrT_length]; exact k), rdT_get k]
  by_cases e : p < m * 32
  · rw [if_pos e, if_pos e, wrT_get h, if_neg (by omega)]
  · rw [if_neg e, if_neg e]
/-- What was written reads back. -/
theorem rd_wr_same {t : List UInt8} {f l : Nat} {d : List UInt8} (h : Right (t.length / 32 : Nat) f l) : rdT (wrT t f l d) f l = padN (l * 32) d := by
  apply List.ext_getElem?
  intro p
  rw [rdT_get (by rw [wrT_length]; exact h)]
  by_cases e : p < l * 32
  · rw [if_pos e, wrT_get h, if_pos ⟨by omega, by omega⟩]
    congr 1
    omega
  · rw [if_neg e, List.getElem?_eq_none (by rw [padN_length]; omega)]
theorem sumL_vols (es : List VE) : sumL (volsE es) = sumL es := by
  unfold sumL volsE
  induction es with
  | nil => rfl
  | cons x es ih =>
    rw [List.filter_cons]
    by_cases hl : 0 < x.len
    · rw [if_pos (by simpa using hl), List.map_cons, List.sum_cons, ih, List.map_cons, List.sum_cons]
    · rw [if_neg (by simpa using hl), ih, List.map_cons, List.sum_cons]
      omega
theorem flE_atK {es : List VE} {j k : Nat} {rest : List Value} {v : Value} (h : j < es.length) (hk : es[j].cells[k]? = some v) : (flE es ++ rest)[0 + j * 3 + k]? = some v := by
  have hl := flE_length es
  have hk3 : k < 3 := (List.getElem?_eq_some_iff.1 hk).1
  rw [Nat.zero_add, List.getElem?_append_left (by omega)]
  rw [← flE_get h, List.getElem?_take_of_lt hk3, List.getElem?_drop] at hk
  exact hk
/-- Marks, one a sector. -/
def usT (f : Nat → Bool) (n : Nat) : List Value := (List.range n).map fun p => Value.bool (f p)
theorem usT_length (f : Nat → Bool) (n : Nat) : (usT f n).length = n := by simp [usT]
theorem usT_get {f : Nat → Bool} {n p : Nat} (h : p < n) : (usT f n)[0 + p]? = some (.bool (f p)) := by
  unfold usT
  rw [Nat.zero_add, List.getElem?_map, List.getElem?_range h]
  rfl
theorem usT_set (f : Nat → Bool) (n q : Nat) : (usT f n).set (0 + q) (.bool true) = usT (fun p => decide (p = q) || f p) n := by
  apply List.ext_getElem?
  intro i
  rw [Nat.zero_add, List.getElem?_set]
  unfold usT
  by_cases e : q = i
  · subst e
    rw [if_pos rfl]
    simp only [List.length_map, List.length_range, List.getElem?_map]
    by_cases h : q < n
    · rw [if_pos h, List.getElem?_range h]; simp
    · rw [if_neg h, List.getElem?_eq_none (by simpa using h)]; rfl
  · rw [if_neg e]
    simp only [List.getElem?_map]
    by_cases h : i < n
    · rw [List.getElem?_range h]
      simp [Ne.symm e]
    · rw [List.getElem?_eq_none (by simpa using h)]; rfl
theorem usT_zero (n : Nat) : zeros n [Value.bool false] = usT (fun _ => false) n := by
  unfold usT
  apply List.ext_getElem?
  intro i
  by_cases h : i < n
  · rw [List.getElem?_map, List.getElem?_range h]
    simp [zeros, h]
  · rw [List.getElem?_eq_none (by simp [zeros]; omega), List.getElem?_eq_none (by simp; omega)]
end Go.Mo
namespace Go.Mo
open Go Go.Sl Go.Evl
/-! ### The sum, bit by bit -/
/-- One bit more. -/
def crcStep (c b : Nat) : Nat := if Nat.xor c b % 2 = 1 then Nat.xor (c / 2) 3988292384 else c / 2
theorem xor_half (a b : Nat) : Nat.xor a b / 2 = Nat.xor (a / 2) (b / 2) := by
  have h := Nat.shiftRight_xor_distrib (a := a) (b := b) (i := 1)
  simp only [Nat.shiftRight_eq_div_pow, Nat.pow_one] at h
  exact h
theorem xor_mod (a b : Nat) : Nat.xor a b % 2 = Nat.xor (a % 2) (b % 2) := by
  have h := Nat.xor_mod_two_pow (a := a) (b := b) (n := 1)
  simp only [Nat.pow_one] at h
  exact h
theorem crc_step (c y : Nat) : Nat.xor (crcStep c (y % 2)) (y / 2) = crcBit (Nat.xor c y) := by
  have e : Nat.xor c (y % 2) % 2 = Nat.xor c y % 2 := by
    rw [xor_mod, xor_mod c y, Nat.mod_mod]
  unfold crcStep crcBit
  rw [e, xor_half]
  have h2 := Nat.mod_two_eq_zero_or_one (Nat.xor c y)
  rcases h2 with h2 | h2
  · rw [h2, if_neg (by decide), Nat.mul_zero]
    exact (Nat.xor_zero _).symm
  · rw [h2, if_pos rfl, Nat.mul_one]
    show (c / 2) ^^^ 3988292384 ^^^ (y / 2) = (c / 2) ^^^ (y / 2) ^^^ 3988292384
    rw [Nat.xor_assoc, Nat.xor_comm 3988292384, ← Nat.xor_assoc]
theorem crcStep_lt {c b : Nat} (h : c < 4294967296) : crcStep c b < 4294967296 := by
  unfold crcStep
  split
  · exact xor_lt (by omega) (by decide)
  · omega
theorem crc_last {c d x : Nat} (hx : x < 256) (h : Nat.xor c (x / 2 ^ 8) = d) : c = d := by
  rw [Nat.div_eq_of_lt hx] at h
  rw [← h]
  exact (Nat.xor_zero c).symm
/-! ### Sectors that are entries -/
theorem leV_le2 {v : Nat} (h : v < 65536) : leV (leN v 2) = v := by
  show (UInt8.ofNat (v >>> 0)).toNat + 256 * ((UInt8.ofNat (v >>> 8)).toNat + 256 * 0) = v
  rw [UInt8.toNat_ofNat', UInt8.toNat_ofNat', Nat.shiftRight_eq_div_pow, Nat.shiftRight_eq_div_pow]
  omega
theorem pad_small {n : List UInt8} (h : n.length ≤ 16) : padN 16 n = n ++ List.replicate (16 - n.length) 0 := by
  unfold padN; rw [List.take_of_length_le h]
theorem laid_eq (x : VE) : laidT x = [86, UInt8.ofNat x.name.length] ++ (padN 16 x.name ++ (leN x.first 2 ++ (leN x.len 2 ++ (leN (crcOf 0 (hdT x)) 4 ++ List.replicate 6 0)))) := by
  unfold laidT hdT
  simp only [List.append_assoc]
theorem piece_skip {A B : List UInt8} {i n : Nat} (h : A.length ≤ i) : piece (A ++ B) i n = piece B (i - A.length) n := by
  unfold piece
  rw [List.take_append, List.take_of_length_le (by omega), List.drop_append, List.drop_eq_nil_of_le h, List.nil_append]
  congr 2
  omega
theorem piece_head {A B : List UInt8} {n : Nat} (h : A.length = n) : piece (A ++ B) 0 n = A := by
  unfold piece
  rw [List.drop_zero, Nat.zero_add, List.take_left' h]
theorem says_laid {x : VE} (hn : x.name.length ≤ 16) (hf : x.first < 65536) (hl : x.len < 65536) : saysT (laidT x) = x := by
  have h1 : (laidT x).getD 1 0 = UInt8.ofNat x.name.length := rfl
  have h2 : (UInt8.ofNat x.name.length).toNat = x.name.length := by rw [UInt8.toNat_ofNat']; omega
  have hp : (padN 16 x.name).length = 16 := padN_length _ _
  unfold saysT
  rw [h1, h2]
  have e0 : piece (laidT x) 2 x.name.length = x.name := by
    rw [laid_eq, piece_skip (by simp), pad_small hn, List.append_assoc]
    exact piece_head rfl
  have e1 : piece (laidT x) 18 2 = leN x.first 2 := by
    rw [laid_eq, piece_skip (by simp), piece_skip (by rw [hp]; exact Nat.le_refl 16), hp]
    exact piece_head (leN_length _ _)
  have e2 : piece (laidT x) 20 2 = leN x.len 2 := by
    rw [laid_eq, piece_skip (by simp), piece_skip (by rw [hp]; show 16 ≤ 18; decide), hp, piece_skip (by rw [leN_length]; exact Nat.le_refl 2), leN_length]
    exact piece_head (leN_length _ _)
  rw [e0, e1, e2, leV_le2 hf, leV_le2 hl]
theorem rd_laid {c : Nat} {x : VE} (h : x.ok c) (hc : c ≤ 512) : rdE c (laidT x) = x := by
  have hn := (gb_len h.1).2
  have hs := says_laid (x := x) hn (by have := h.2.2.2; omega) (by have := h.2.2.2; omega)
  unfold rdE
  have h0 : ((laidT x).getD 1 0).toNat ≤ 16 := by
    show (UInt8.ofNat x.name.length).toNat ≤ 16
    rw [UInt8.toNat_ofNat']
    omega
  rw [hs, if_pos ⟨h0, rfl, h⟩]
theorem rd_not {c : Nat} {b : List UInt8} (h : b[0]? ≠ some 86) : rdE c b = VE.zero := by
  unfold rdE
  rw [if_neg]
  rintro ⟨_, e, _⟩
  exact h (by rw [e]; rfl)
theorem sec_rd1 {t : List UInt8} {k : Nat} (h : Right (t.length / 32 : Nat) (k : Nat) (1 : Nat)) : rdT t (k : Nat) (1 : Nat) = secT t k := by
  unfold rdT secT
  rw [if_pos h, Int.toNat_natCast, Int.toNat_natCast, List.drop_take]
  congr 1
  omega
/-- Entries told by their sectors, each of them. -/
structure Clean (c : Nat) (es : List VE) (t : List UInt8) : Prop where
  v : VInv c es
  tl : t.length = c * 32
  c9 : 9 ≤ c ∧ c ≤ 512
  eq : ∀ i (h : i < es.length), es[i] = rdE c (secT t i)
theorem Clean.right {c : Nat} {es : List VE} {t : List UInt8} (h : Clean c es t) {k n : Nat} (h1 : 1 ≤ n) (h2 : k + n ≤ c) : Right (t.length / 32 : Nat) (k : Nat) (n : Nat) := by
  rw [cap_of h.tl]; unfold Right; omega
theorem Clean.other {c : Nat} {es : List VE} {t : List UInt8} (h : Clean c es t) {k f n : Nat} {d : List UInt8} (hk : k < 8) (h1 : 1 ≤ n) (h2 : f + n ≤ c) (ha : k + 1 ≤ f ∨ f + n ≤ k) : secT (wrT t f n d) k = secT t k := by
  have hc := h.c9
  have r1 := h.right (k := k) (n := 1) (Nat.le_refl 1) (by omega)
  have r2 := h.right (k := f) (n := n) h1 h2
  rw [← sec_rd1 r1, ← sec_rd1 (by rw [wrT_length]; exact r1)]
  exact rd_wr_apart r2 r1 (by omega)
theorem Clean.same {c : Nat} {es : List VE} {t : List UInt8} (h : Clean c es t) {k : Nat} {d : List UInt8} (hk : k < 8) : secT (wrT t k 1 d) k = padN 32 d := by
  have hc := h.c9
  have r1 := h.right (k := k) (n := 1) (Nat.le_refl 1) (by omega)
  rw [← sec_rd1 (by rw [wrT_length]; exact r1)]
  exact rd_wr_same r1
theorem pad32_laid (x : VE) : padN 32 (laidT x) = laidT x := by
  unfold padN
  rw [laidT_length, List.take_of_length_le (by rw [laidT_length]; omega)]
  simp
/-- Sectors behind the entries are written. -/
theorem Clean.behind {c : Nat} {es : List VE} {t : List UInt8} (h : Clean c es t) {f n : Nat} {d : List UInt8} (hf : 8 ≤ f) (h1 : 1 ≤ n) (h2 : f + n ≤ c) : Clean c es (wrT t f n d) where
  v := h.v
  tl := by rw [wrT_length]; exact h.tl
  c9 := h.c9
  eq i hi := by
    have := h.v.len
    rw [h.other (by omega) h1 h2 (.inl (by omega))]
    exact h.eq i hi
/-- An entry is written. -/
theorem Clean.put {c : Nat} {es : List VE} {t : List UInt8} (h : Clean c es t) {i : Nat} {x : VE} {d : List UInt8} (hi : i < 8) (hx : rdE c (padN 32 d) = x) (hv : VInv c (es.set i x)) : Clean c (es.set i x) (wrT t i 1 d) where
  v := hv
  tl := by rw [wrT_length]; exact h.tl
  c9 := h.c9
  eq k hk := by
    have hl := h.v.len
    have hc := h.c9
    rw [List.length_set] at hk
    rw [List.getElem_set]
    by_cases e : i = k
    · subst e
      rw [if_pos rfl]
      have hs := h.same (k := i) (d := d) (by omega)
      rw [show secT (wrT t i 1 d) i = padN 32 d from hs, hx]
    · rw [if_neg e, show secT (wrT t i 1 d) k = secT t k from h.other (f := i) (n := 1) (by omega) (Nat.le_refl 1) (by omega) (by omega)]
      exact h.eq k hk
theorem Clean.first8 {c : Nat} {es : List VE} {t : List UInt8} (h : Clean c es t) (n : Nat) : 8 ≤ roomAt es n := by
  obtain ⟨p, hp⟩ := first_ex h.v n; rw [hp.room]; exact hp.1
theorem cre_clean {c : Nat} {es : List VE} {t : List UInt8} (h : Clean c es t) (name : List UInt8) (n : Int) : Clean c (creV c es t name n).2.1 (creV c es t name n).2.2 := by
  have hv := cre_inv h.v (first_ex h.v) t name n
  have hc := h.c9
  by_cases h1 : gb name = true ∧ 1 ≤ n ∧ n ≤ 512
  · cases hf : findE es name with
    | some j => rw [cre_two h1 hf]; exact h
    | none =>
      obtain ⟨m, rfl⟩ := Int.eq_ofNat_of_zero_le (show 0 ≤ n by omega)
      by_cases hr : 0 ≤ freeZ es ∧ roomAt es m + m ≤ c
      · obtain ⟨i, hi, _⟩ := free_of hr.1
        obtain ⟨hi8, _⟩ := freeI_is hi
        have hl := h.v.len
        rw [cre_ok h1 hf hi hr.2] at hv ⊢
        have h8 := h.first8 m
        exact (h.behind h8 (by omega) hr.2).put (by omega) (by rw [pad32_laid]; exact rd_laid ⟨h1.1, by show 1 ≤ m; omega, h8, hr.2⟩ hc.2) hv
      · rw [cre_full h1 hf hr]; exact h
  · rw [cre_bad h1]; exact h
theorem del_clean {c : Nat} {es : List VE} {t : List UInt8} (h : Clean c es t) (name : List UInt8) : Clean c (delV es t name).2.1 (delV es t name).2.2 := by
  have hv := del_inv h.v t name
  cases hf : findE es name with
  | none => rw [del_none hf]; exact h
  | some i =>
    obtain ⟨hi8, _⟩ := findE_is hf
    have hl := h.v.len
    rw [del_some hf] at hv ⊢
    exact h.put (by omega) (rd_not (by rw [pad_nil]; simp)) hv
theorem ren_clean {c : Nat} {es : List VE} {t : List UInt8} (h : Clean c es t) (name to_ : List UInt8) : Clean c (renV es t name to_).2.1 (renV es t name to_).2.2 := by
  have hv := ren_inv h.v t name to_
  have hc := h.c9
  by_cases h0 : (othV es name to_).2 = 0
  · obtain ⟨hk, hl, hg⟩ := oth_lt h0
    have h8 := h.v.len
    have hok := h.v.okOf hk hl
    rw [ren_yes h0 hk] at hv ⊢
    exact h.put (by omega) (by rw [pad32_laid]; exact rd_laid ⟨hg, hok.2.1, hok.2.2.1, hok.2.2.2⟩ hc.2) hv
  · rw [ren_no h0]; exact h
theorem clo_clean {c : Nat} {es : List VE} {t : List UInt8} (h : Clean c es t) (name to_ : List UInt8) : Clean c (cloV c es t name to_).2.1 (cloV c es t name to_).2.2 := by
  have hv := clo_inv h.v (first_ex h.v) t name to_
  have hc := h.c9
  by_cases h0 : (othV es name to_).2 = 0
  · obtain ⟨hk, hl, hg⟩ := oth_lt h0
    have h8 := h.v.len
    have hok := h.v.okOf hk hl
    by_cases hr : 0 ≤ freeZ es ∧ roomAt es es[(othV es name to_).1].len + es[(othV es name to_).1].len ≤ c
    · obtain ⟨i, hi, _⟩ := free_of hr.1
      obtain ⟨hi8, _⟩ := freeI_is hi
      rw [clo_ok h0 hk hi hr.2] at hv ⊢
      have h8' := h.first8 es[(othV es name to_).1].len
      exact (h.behind h8' hl hr.2).put (by omega) (by rw [pad32_laid]; exact rd_laid ⟨hg, hl, h8', hr.2⟩ hc.2) hv
    · rw [clo_full h0 hk hr]; exact h
  · rw [clo_no h0]; exact h
theorem wri_clean {c : Nat} {es : List VE} {t : List UInt8} (h : Clean c es t) (name : List UInt8) (at_ n : Int) (data : List UInt8) : Clean c es (wriV es t name at_ n data).2 := by
  by_cases h0 : (plcE es name at_ n).2 = 0
  · rw [wri_yes h0]
    obtain ⟨i, hi, hf, hR, e⟩ := plc_is h0
    obtain ⟨_, hl, _⟩ := findE_is hf
    have hok := h.v.okOf hi hl
    rw [e]
    unfold Right at hR
    obtain ⟨a, rfl⟩ := Int.eq_ofNat_of_zero_le hR.2.2.1
    obtain ⟨m, rfl⟩ := Int.eq_ofNat_of_zero_le (show 0 ≤ n by omega)
    exact h.behind (f := es[i].first + a) (n := m) (by have := hok.2.2.1; omega) (by omega) (by have := hok.2.2.2; omega)
  · rw [wri_no h0]; exact h
theorem step_clean {c : Nat} {es : List VE} {t : List UInt8} (h : Clean c es t) (x : VAct) : Clean c (stepV c es t x).2.2.1 (stepV c es t x).2.2.2 := by
  unfold stepV
  repeat' split
  · exact cre_clean h _ _
  · exact del_clean h _
  · exact ren_clean h _ _
  · exact clo_clean h _ _
  · exact wri_clean h _ _ _ _
  · exact h
  · exact h
end Go.Mo
namespace Go.Mo
open Go Go.Sl Go.Evl
def rcE (y : VE × Nat) : List Value := [strV y.1.name, intV y.1.first, intV y.1.len, intV y.2]
def flR (L : List (VE × Nat)) : List Value := (L.map rcE).flatten
theorem rcE_one (y : VE × Nat) : ∀ u ∈ rcE y, u.oneCell' = true := by
  intro u hu
  simp only [rcE, List.mem_cons, List.not_mem_nil, or_false] at hu
  rcases hu with rfl | rfl | rfl | rfl <;> rfl
theorem flR_cons (x : VE × Nat) (L : List (VE × Nat)) : flR (x :: L) = rcE x ++ flR L := by simp [flR]
theorem flR_append (xs ys : List (VE × Nat)) : flR (xs ++ ys) = flR xs ++ flR ys := by simp [flR]
theorem rcE_length (y : VE × Nat) : (rcE y).length = 4 := rfl
theorem flR_length : ∀ L : List (VE × Nat), (flR L).length = L.length * 4
  | [] => rfl
  | x :: L => by
    rw [flR_cons, List.length_append, flR_length L, rcE_length, List.length_cons]
    omega
theorem flR_drop : ∀ (L : List (VE × Nat)) (j : Nat), (flR L).drop (j * 4) = flR (L.drop j)
  | L, 0 => by simp
  | [], j + 1 => by simp [flR]
  | x :: L, j + 1 => by
    rw [flR_cons, List.drop_succ_cons, ← flR_drop L j, List.drop_append, rcE_length, List.drop_eq_nil_of_le (by rw [rcE_length]; omega), List.nil_append, show (j + 1) * 4 - 4 = j * 4 from by omega]
theorem flR_get {L : List (VE × Nat)} {j : Nat} (h : j < L.length) : ((flR L).drop (j * 4)).take 4 = rcE L[j] := by
  rw [flR_drop, List.drop_eq_getElem_cons h, flR_cons]
  exact List.take_left' rfl
theorem flR_getR {L : List (VE × Nat)} {j : Nat} {rest : List Value} (h : j < L.length) : ((flR L ++ rest).drop (0 + j * 4)).take 4 = rcE L[j] := by
  have hl := flR_length L
  rw [Nat.zero_add, List.drop_append_of_le_length (by omega), List.take_append_of_le_length (by rw [List.length_drop]; omega), flR_get h]
theorem flR_atK {L : List (VE × Nat)} {j k : Nat} {rest : List Value} {v : Value} (h : j < L.length) (hk : (rcE L[j])[k]? = some v) : (flR L ++ rest)[0 + j * 4 + k]? = some v := by
  have hl := flR_length L
  have hk4 : k < 4 := (List.getElem?_eq_some_iff.1 hk).1
  rw [Nat.zero_add, List.getElem?_append_left (by omega)]
  rw [← flR_get h, List.getElem?_take_of_lt hk4, List.getElem?_drop] at hk
  exact hk
/-- An element with another name. -/
theorem flR_name {L : List (VE × Nat)} {j : Nat} {rest : List Value} {nm : List UInt8} (h : j < L.length) : (((flR L ++ rest).set (0 + j * 4 + 0) (strV nm)).drop (0 + j * 4)).take 4 = rcE (⟨nm, L[j].1.first, L[j].1.len⟩, L[j].2) := by
  have hl := flR_length L
  have hg := flR_getR (rest := rest) h
  have e : ((flR L ++ rest).set (0 + j * 4 + 0) (strV nm)).drop (0 + j * 4) = ((flR L ++ rest).drop (0 + j * 4)).set 0 (strV nm) := by
    rw [Nat.add_zero, List.drop_set, if_neg (Nat.lt_irrefl _), Nat.sub_self]
  rw [e, List.take_set, hg]
  rfl
open Classical in
/-- The volumes that the sectors tell, of the first k, with their sectors. -/
noncomputable def rvE (c : Nat) (t : List UInt8) : Nat → List (VE × Nat)
  | 0 => []
  | k + 1 => if 0 < (rdE c (secT t k)).len ∧ ∀ y ∈ rvE c t k, ¬ (rdE c (secT t k)).meets y.1 then rvE c t k ++ [(rdE c (secT t k), k)] else rvE c t k
section
variable {c : Nat} {t : List UInt8} {k : Nat}
theorem rv_yes (h1 : 0 < (rdE c (secT t k)).len) (h2 : ∀ j (hj : j < (rvE c t k).length), ¬ (rvE c t k)[j].1.meets (rdE c (secT t k))) : rvE c t (k + 1) = rvE c t k ++ [(rdE c (secT t k), k)] := by
  rw [rvE, if_pos]
  refine ⟨h1, fun y hy hm => ?_⟩
  obtain ⟨j, hj, rfl⟩ := List.getElem_of_mem hy
  exact h2 j hj (VE.meets_comm hm)
theorem rv_no (h : (rdE c (secT t k)).len = 0 ∨ ∃ j, ∃ hj : j < (rvE c t k).length, (rvE c t k)[j].1.meets (rdE c (secT t k))) : rvE c t (k + 1) = rvE c t k := by
  rw [rvE, if_neg]
  rintro ⟨h1, h2⟩
  rcases h with h | ⟨j, hj, hm⟩
  · omega
  · exact h2 _ (List.getElem_mem hj) (VE.meets_comm hm)
theorem rv_len (c : Nat) (t : List UInt8) : ∀ k, (rvE c t k).length ≤ k
  | 0 => Nat.le_refl _
  | k + 1 => by
    have := rv_len c t k
    rw [rvE]
    split
    · rw [List.length_append]; simp; omega
    · omega
theorem rv_is : ∀ {k : Nat}, ∀ y ∈ rvE c t k, y.2 < k ∧ y.1 = rdE c (secT t y.2) ∧ 0 < y.1.len
  | 0, y, hy => by cases hy
  | k + 1, y, hy => by
    rw [rvE] at hy
    split at hy
    · rename_i h
      rcases List.mem_append.1 hy with g | g
      · obtain ⟨h1, h2⟩ := rv_is y g
        exact ⟨by omega, h2⟩
      · rw [List.mem_singleton.1 g]
        exact ⟨Nat.lt_succ_self k, rfl, h.1⟩
    · obtain ⟨h1, h2⟩ := rv_is y hy
      exact ⟨by omega, h2⟩
theorem rv_get {j : Nat} (h : j < (rvE c t k).length) : (rvE c t k)[j].2 < k ∧ (rvE c t k)[j].1 = rdE c (secT t (rvE c t k)[j].2) ∧ 0 < (rvE c t k)[j].1.len := rv_is _ (List.getElem_mem h)
theorem rv_ok {j : Nat} (h : j < (rvE c t k).length) : (rvE c t k)[j].1.ok c := by
  obtain ⟨_, h2, h3⟩ := rv_get h
  rcases rdE_ok c (secT t (rvE c t k)[j].2) with e | e
  · rw [h2, e] at h3; exact absurd h3 (Nat.lt_irrefl _)
  · rw [h2]; exact e
/-- They are the store's. -/
theorem rv_vols (c : Nat) (t : List UInt8) : ∀ k, volsE (opE c t k) = (rvE c t k).map Prod.fst
  | 0 => rfl
  | k + 1 => by
    have ih := rv_vols c t k
    have hz : volsE [VE.zero] = [] := rfl
    have ha : ∀ (xs ys : List VE), volsE (xs ++ ys) = volsE xs ++ volsE ys := fun xs ys => List.filter_append ..
    rw [opE]
    split
    · rename_i h
      obtain ⟨y, hy, hm⟩ := h
      rw [ih] at hy
      obtain ⟨z, hz2, rfl⟩ := List.mem_map.1 hy
      obtain ⟨j, hj, rfl⟩ := List.getElem_of_mem hz2
      rw [ha, hz, List.append_nil, rv_no (.inr ⟨j, hj, VE.meets_comm hm⟩), ih]
    · rename_i h
      rw [ha, ih]
      by_cases hl : 0 < (rdE c (secT t k)).len
      · rw [rv_yes hl (fun j hj hm => h ⟨_, by rw [ih]; exact List.mem_map_of_mem (List.getElem_mem hj), VE.meets_comm hm⟩), List.map_append]
        congr 1
        show List.filter _ _ = _
        rw [List.filter_cons, if_pos (by simpa using hl)]
        rfl
      · rw [rv_no (.inl (by omega))]
        have : volsE [rdE c (secT t k)] = [] := by
          show List.filter _ _ = _
          rw [List.filter_cons, if_neg (by simpa using hl)]
          rfl
        rw [this, List.append_nil]
/-- How many entries there are, shadowed ones among them. -/
noncomputable def cntE (c : Nat) (t : List UInt8) : Nat → Nat
  | 0 => 0
  | k + 1 => if 0 < (rdE c (secT t k)).len then cntE c t k + 1 else cntE c t k
theorem cnt_le (c : Nat) (t : List UInt8) : ∀ k, (rvE c t k).length ≤ cntE c t k ∧ cntE c t k ≤ k
  | 0 => ⟨Nat.le_refl _, Nat.le_refl _⟩
  | k + 1 => by
    obtain ⟨h1, h2⟩ := cnt_le c t k
    rw [cntE, rvE]
    by_cases hl : 0 < (rdE c (secT t k)).len
    · rw [if_pos hl]
      split
      · rw [List.length_append]; exact ⟨by simp; omega, by omega⟩
      · exact ⟨by omega, by omega⟩
    · rw [if_neg hl, if_neg (fun h => hl h.1)]
      exact ⟨h1, by omega⟩
/-- None is shadowed: each entry is as its sector says. -/
theorem clean_of {c : Nat} {t : List UInt8} (ht : t.length = c * 32) (hc : 9 ≤ c ∧ c ≤ 512) (h : cntE c t 8 = (rvE c t 8).length) : Clean c (opE c t 8) t where
  v := op_inv8 c t
  tl := ht
  c9 := hc
  eq := by
    have key : ∀ k, cntE c t k = (rvE c t k).length → ∀ i (hi : i < (opE c t k).length), (opE c t k)[i] = rdE c (secT t i) := by
      intro k
      induction k with
      | zero => intro _ i hi; exact absurd hi (Nat.not_lt_zero _)
      | succ k ih =>
        intro hk i hi
        have hle := cnt_le c t k
        have hol := opE_length c t k
        have hno : ¬ ∃ y ∈ volsE (opE c t k), (rdE c (secT t k)).meets y ∧ 0 < (rdE c (secT t k)).len := by
          rintro ⟨y, hy, hm, hl⟩
          rw [rv_vols] at hy
          obtain ⟨z, hz2, rfl⟩ := List.mem_map.1 hy
          obtain ⟨j, hj, rfl⟩ := List.getElem_of_mem hz2
          rw [rv_no (.inr ⟨j, hj, VE.meets_comm hm⟩), cntE, if_pos hl] at hk
          omega
        have hk' : cntE c t k = (rvE c t k).length := by
          rw [cntE, rvE] at hk
          by_cases hl : 0 < (rdE c (secT t k)).len
          · rw [if_pos hl] at hk
            split at hk
            · rw [List.length_append] at hk; simp at hk; exact hk
            · omega
          · rw [if_neg hl, if_neg (fun h => hl h.1)] at hk
            exact hk
        have hopk : opE c t (k + 1) = opE c t k ++ [rdE c (secT t k)] := by
          rw [opE]
          split
          · rename_i h
            obtain ⟨y, hy, hm⟩ := h
            have hz : (rdE c (secT t k)).len = 0 := by
              rcases Nat.eq_zero_or_pos (rdE c (secT t k)).len with e | e
              · exact e
              · exact absurd ⟨y, hy, hm, e⟩ hno
            rw [rdE_zero hz]
          · rfl
        have e : (opE c t (k + 1))[i]? = some (rdE c (secT t i)) := by
          rw [hopk]
          rw [opE_length] at hi
          by_cases g : i < k
          · rw [List.getElem?_append_left (by omega), List.getElem?_eq_getElem (by omega), ih hk' i (by omega)]
          · have : i = k := by omega
            subst this
            rw [List.getElem?_append_right (by omega), hol, Nat.sub_self]
            rfl
        rw [List.getElem?_eq_getElem hi] at e
        exact Option.some.inj e
    intro i hi
    exact key 8 h i hi
variable {es : List VE}
theorem Clean.mem (h : Clean c es t) : ∀ k, k ≤ 8 → ∀ i (hi : i < es.length), i < k → 0 < es[i].len → ∃ j, ∃ hj : j < (rvE c t k).length, (rvE c t k)[j] = (es[i], i)
  | 0, _, i, hi, hk, _ => absurd hk (Nat.not_lt_zero _)
  | k + 1, h8, i, hi, hk, hl => by
    have hlen := h.v.len
    have hke := h.eq k (by omega)
    have hin : ∀ {k'}, (∃ j, ∃ hj : j < (rvE c t k').length, (rvE c t k')[j] = (es[i], i)) ↔ (es[i], i) ∈ rvE c t k' := fun {k'} => ⟨fun ⟨j, hj, e⟩ => e ▸ List.getElem_mem hj, fun hm => List.getElem_of_mem hm⟩
    rw [hin]
    by_cases e : i = k
    · subst e
      rw [rv_yes (by rw [← hke]; exact hl) (fun j hj hm => ?_)]
      · rw [← hke]; simp
      · obtain ⟨h1, h2, h3⟩ := rv_get hj
        have he := h.eq (rvE c t i)[j].2 (by omega)
        rw [← hke] at hm
        rw [h2, ← he] at hm h3
        exact h.v.apart _ _ (by omega) hi (by omega) h3 hl hm
    · have ih := hin.1 (h.mem k (by omega) i hi (by omega) hl)
      rw [rvE]
      split
      · exact List.mem_append_left _ ih
      · exact ih
theorem Clean.vols (h : Clean c es t) : volsE es = (rvE c t 8).map Prod.fst := by
  have hlen := h.v.len
  have key : ∀ k, k ≤ 8 → volsE (es.take k) = (rvE c t k).map Prod.fst := by
    intro k
    induction k with
    | zero => intro _; rfl
    | succ k ih =>
      intro hk
      have hke := h.eq k (by omega)
      rw [vols_take (by omega), ih (by omega)]
      by_cases hl : 0 < es[k].len
      · rw [if_pos hl, rv_yes (by rw [← hke]; exact hl) (fun j hj hm => ?_), List.map_append, hke]
        · rfl
        · obtain ⟨h1, h2, h3⟩ := rv_get hj
          have he := h.eq (rvE c t k)[j].2 (by omega)
          rw [← hke] at hm
          rw [h2, ← he] at hm h3
          exact h.v.apart _ _ (by omega) (by omega) (by omega) h3 hl hm
      · rw [if_neg hl, rv_no (.inl (by rw [← hke]; omega))]
  have := key 8 (Nat.le_refl _)
  rwa [List.take_of_length_le (by omega)] at this
/-- What a search in the list answers. -/
def FindQ (L : List (VE × Nat)) (name : List UInt8) (r : Int) : Prop := (r = -1 ∧ ∀ j (hj : j < L.length), L[j].1.name ≠ name) ∨ ∃ j, ∃ hj : j < L.length, r = (j : Int) ∧ L[j].1.name = name
theorem Clean.find_none (h : Clean c es t) {name : List UInt8} {r : Int} (hq : FindQ (rvE c t 8) name r) (hr : r < 0) : findE es name = none := by
  rcases hq with ⟨_, hn⟩ | ⟨j, _, rfl, _⟩
  · cases hf : findE es name with
    | none => rfl
    | some i =>
      obtain ⟨hi, h1, h2⟩ := findE_is hf
      have hlen := h.v.len
      obtain ⟨j, hj, e⟩ := h.mem 8 (Nat.le_refl _) i hi (by omega) h1
      exact absurd (by rw [e]; exact h2) (hn j hj)
  · omega
theorem Clean.find_some (h : Clean c es t) {name : List UInt8} {r : Int} (hq : FindQ (rvE c t 8) name r) (hr : 0 ≤ r) : ∃ j, ∃ hj : j < (rvE c t 8).length, r = (j : Int) ∧ findE es name = some (rvE c t 8)[j].2 ∧ ∃ hi : (rvE c t 8)[j].2 < es.length, es[(rvE c t 8)[j].2] = (rvE c t 8)[j].1 := by
  rcases hq with ⟨hm, _⟩ | ⟨j, hj, rfl, hn⟩
  · omega
  · obtain ⟨h1, h2, h3⟩ := rv_get hj
    have hlen := h.v.len
    have hi : (rvE c t 8)[j].2 < es.length := by omega
    have he : es[(rvE c t 8)[j].2] = (rvE c t 8)[j].1 := by rw [h.eq _ hi, h2]
    refine ⟨j, hj, rfl, ?_, hi, he⟩
    cases hf : findE es name with
    | none => exact absurd ⟨by rw [he]; exact h3, by rw [he]; exact hn⟩ (findE_not hf _ hi)
    | some i =>
      obtain ⟨hi2, g1, g2⟩ := findE_is hf
      by_cases e : i = (rvE c t 8)[j].2
      · rw [e]
      · exact absurd (.inl (by rw [g2, he, hn])) (h.v.apart i _ hi2 hi e g1 (by rw [he]; exact h3))
end
end Go.Mo
namespace Go.Mo
open Go Go.Sl Go.Evl
theorem sumR_take {L : List (VE × Nat)} {k : Nat} (h : k < L.length) : sumL ((L.take (k + 1)).map Prod.fst) = sumL ((L.take k).map Prod.fst) + L[k].1.len := by
  unfold sumL
  rw [List.take_succ_eq_append_getElem h, List.map_append, List.map_append, List.sum_append]
  rfl
theorem sumR_bnd {c : Nat} {t : List UInt8} : ∀ k, k ≤ (rvE c t 8).length → sumL (((rvE c t 8).take k).map Prod.fst) ≤ k * c
  | 0, _ => by simp [sumL]
  | k + 1, h => by
    rw [sumR_take (by omega), Nat.succ_mul]
    have := sumR_bnd (c := c) (t := t) k (by omega)
    have := (rv_ok (c := c) (t := t) (k := 8) (j := k) (by omega)).2.2.2
    omega
theorem flE_setlen {es : List VE} {j v : Nat} {rest : List Value} (h : j < es.length) : (flE es ++ rest).set (0 + j * 3 + 2) (intV v) = flE (es.set j ⟨es[j].name, es[j].first, v⟩) ++ rest := by
  have hl := flE_length es
  rw [Nat.zero_add, List.set_append_left _ _ (by omega), ← flE_set ⟨es[j].name, es[j].first, v⟩ h]
  congr 1
  have hd : flE es = (flE es).take (j * 3) ++ es[j].cells ++ (flE es).drop ((j + 1) * 3) := by
    have := flE_set es[j] h
    rw [List.set_getElem_self] at this
    exact this.symm
  have ht : ((flE es).take (j * 3)).length = j * 3 := by rw [List.length_take]; omega
  have hset : ((flE es).take (j * 3) ++ es[j].cells ++ (flE es).drop ((j + 1) * 3)).set (j * 3 + 2) (intV v) = (flE es).take (j * 3) ++ (VE.cells ⟨es[j].name, es[j].first, v⟩) ++ (flE es).drop ((j + 1) * 3) := by
    rw [List.set_append_left _ _ (by rw [List.length_append, ht, VE.cells_length]; omega), List.set_append_right _ _ (by rw [ht]; omega), ht, show j * 3 + 2 - j * 3 = 2 from by omega]
    rfl
  rw [← hd] at hset
  exact hset
section
variable {c : Nat} {es : List VE} {t : List UInt8}
theorem Clean.sum (h : volsE es = (rvE c t 8).map Prod.fst) : sumL ((rvE c t 8).map Prod.fst) = sumL es := by
  rw [← h, sumL_vols]
theorem Clean.len (h : volsE es = (rvE c t 8).map Prod.fst) : (volsE es).length = (rvE c t 8).length := by rw [h, List.length_map]
theorem Clean.nth (h : volsE es = (rvE c t 8).map Prod.fst) {k : Nat} (hk : k < (volsE es).length) (hk2 : k < (rvE c t 8).length) : (volsE es)[k] = (rvE c t 8)[k].1 := by
  have : (volsE es)[k]? = ((rvE c t 8).map Prod.fst)[k]? := by rw [h]
  rw [List.getElem?_eq_getElem hk, List.getElem?_map, List.getElem?_eq_getElem hk2] at this
  exact Option.some.inj this
/-- A sector of a volume of the list. -/
def cvR (L : List (VE × Nat)) (i p : Nat) : Prop := ∃ j, ∃ h : j < L.length, j < i ∧ L[j].1.first ≤ p ∧ p < L[j].1.first + L[j].1.len
def tkR (L : List (VE × Nat)) (i q : Nat) : Prop := ∃ j, ∃ h : j < L.length, j < i ∧ L[j].2 = q
theorem Clean.tk (h : Clean c es t) {q : Nat} (hq : q < es.length) : tkR (rvE c t 8) (rvE c t 8).length q ↔ 0 < es[q].len := by
  have hl := h.v.len
  constructor
  · rintro ⟨j, hj, _, rfl⟩
    obtain ⟨_, h2, h3⟩ := rv_get hj
    rw [h.eq _ hq, ← h2]
    exact h3
  · intro h1
    obtain ⟨j, hj, e⟩ := h.mem 8 (Nat.le_refl _) q hq (by omega) h1
    exact ⟨j, hj, hj, by rw [e]⟩
theorem Clean.blk (h : Clean c es t) {n p : Nat} (hn : 1 ≤ n) : Blk es n p ↔ ∃ k, k < n ∧ cvR (rvE c t 8) (rvE c t 8).length (p + k) := by
  have hl := h.v.len
  constructor
  · rintro ⟨i, hi, h1, h2, h3⟩
    obtain ⟨j, hj, e⟩ := h.mem 8 (Nat.le_refl _) i hi (by omega) h1
    by_cases g : p < es[i].first
    · exact ⟨es[i].first - p, by omega, j, hj, hj, by rw [e]; dsimp only; omega, by rw [e]; dsimp only; omega⟩
    · exact ⟨0, by omega, j, hj, hj, by rw [e]; dsimp only; omega, by rw [e]; dsimp only; omega⟩
  · rintro ⟨k, hk, j, hj, _, g1, g2⟩
    obtain ⟨h1, h2, h3⟩ := rv_get hj
    have he := h.eq (rvE c t 8)[j].2 (by omega)
    rw [← h2] at he
    exact ⟨(rvE c t 8)[j].2, by omega, by rw [he]; exact h3, by rw [he]; omega, by rw [he]; omega⟩
/-- The least free entry from k on. -/
def AtQ (g : Nat → Bool) (k : Nat) (z : Int) : Prop := (z = -1 ∧ ∀ q, k ≤ q → q < 8 → g q = true) ∨ ∃ q : Nat, z = q ∧ k ≤ q ∧ q < 8 ∧ g q = false ∧ ∀ p, k ≤ p → p < q → g p = true
theorem Clean.freeAt (h : Clean c es t) {g : Nat → Bool} (hg : ∀ q, q < 8 → (g q = true ↔ tkR (rvE c t 8) (rvE c t 8).length q)) {z : Int} (hz : AtQ g 0 z) : z = freeZ es := by
  have hl := h.v.len
  have hb : ∀ q (hq : q < es.length), g q = true → es[q].len ≠ 0 := fun q hq hgq => by
    have := (h.tk hq).1 ((hg q (by omega)).1 hgq)
    omega
  rcases hz with ⟨rfl, ha⟩ | ⟨q, rfl, _, hq8, hgq, ha⟩
  · exact (freeZ_none (freeI_none fun q hq => hb q hq (ha q (Nat.zero_le _) (by omega)))).symm
  · refine (freeZ_some (freeI_some (by omega) ?_ fun p hp hpq => hb p hp (ha p (Nat.zero_le _) hpq))).symm
    rcases Nat.eq_zero_or_pos (es[q]'(by omega)).len with e | e
    · exact e
    · have := (hg q hq8).2 ((h.tk (by omega)).2 e)
      rw [hgq] at this
      cases this
theorem room_ge {n p : Nat} (hv : VInv c es) (hb : ∀ k, 8 ≤ k → k < p → Blk es n k) (h8 : 8 ≤ p) : p ≤ roomAt es n := by
  obtain ⟨r, hr⟩ := first_ex hv n
  rw [hr.room]
  rcases Nat.lt_or_ge r p with g | g
  · exact absurd (hb r hr.1 g) hr.2.1
  · exact g
end
theorem cvR_succ {L : List (VE × Nat)} {i p : Nat} (hi : i < L.length) : cvR L (i + 1) p ↔ cvR L i p ∨ (L[i].1.first ≤ p ∧ p < L[i].1.first + L[i].1.len) := by
  constructor
  · rintro ⟨j, hj, h1, h2⟩
    by_cases e : j = i
    · subst e; exact .inr h2
    · exact .inl ⟨j, hj, by omega, h2⟩
  · rintro (⟨j, hj, h1, h2⟩ | h)
    · exact ⟨j, hj, by omega, h2⟩
    · exact ⟨i, hi, by omega, h⟩
theorem tkR_succ {L : List (VE × Nat)} {i q : Nat} (hi : i < L.length) : tkR L (i + 1) q ↔ tkR L i q ∨ L[i].2 = q := by
  constructor
  · rintro ⟨j, hj, h1, h2⟩
    by_cases e : j = i
    · subst e; exact .inr h2
    · exact .inl ⟨j, hj, by omega, h2⟩
  · rintro (⟨j, hj, h1, h2⟩ | h)
    · exact ⟨j, hj, by omega, h2⟩
    · exact ⟨i, hi, by omega, h⟩
theorem AtQ.down {g : Nat → Bool} {k : Nat} {z : Int} (h : AtQ g (k + 1) z) (hg : g k = true) : AtQ g k z := by
  rcases h with ⟨h1, h2⟩ | ⟨q, h1, h2, h3, h4, h5⟩
  · refine .inl ⟨h1, fun q hq h8 => ?_⟩
    by_cases e : q = k
    · rw [e]; exact hg
    · exact h2 q (by omega) h8
  · refine .inr ⟨q, h1, by omega, h3, h4, fun p hp hlt => ?_⟩
    by_cases e : p = k
    · rw [e]; exact hg
    · exact h5 p (by omega) hlt
theorem or_dec {a : Nat} {f : Nat → Bool} {p : Nat} : (decide (p = a) || f p) = true ↔ p = a ∨ f p = true := by
  rw [Bool.or_eq_true, decide_eq_true_iff]
theorem Clean.count {c : Nat} {es : List VE} {t : List UInt8} (h : Clean c es t) : cntE c t 8 = (rvE c t 8).length := by
  have hlen := h.v.len
  have key : ∀ k, k ≤ 8 → cntE c t k = (rvE c t k).length := by
    intro k
    induction k with
    | zero => intro _; rfl
    | succ k ih =>
      intro hk
      have hke := h.eq k (by omega)
      rw [cntE]
      by_cases hl : 0 < (rdE c (secT t k)).len
      · rw [if_pos hl, rv_yes hl (fun j hj hm => ?_), List.length_append, ih (by omega)]
        · rfl
        · obtain ⟨h1, h2, h3⟩ := rv_get hj
          have he := h.eq (rvE c t k)[j].2 (by omega)
          rw [← hke] at hm hl
          rw [h2, ← he] at hm h3
          exact h.v.apart _ _ (by omega) (by omega) (by omega) h3 hl hm
      · rw [if_neg hl, rv_no (.inl (by omega)), ih (by omega)]
  exact key 8 (Nat.le_refl _)
end Go.Mo
