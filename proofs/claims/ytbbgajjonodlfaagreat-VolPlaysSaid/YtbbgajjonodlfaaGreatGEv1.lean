/-
  Values, rows and memories of a small evaluator, and what they stand for. It proves nothing of the program by itself.
-/
import Derived.Test.YtbbgajjonodlfaaGreatGSl12
set_option linter.unusedVariables false
set_option linter.unusedSimpArgs false
namespace Go.Evl
open Go Go.Sl

/-! ### Bytes as one number -/
def bytesOf : Nat → Nat → List UInt8
  | 0, _ => []
  | l + 1, n => UInt8.ofNat n :: bytesOf l (n / 256)
theorem bytesOf_length : ∀ (l n : Nat), (bytesOf l n).length = l
  | 0, _ => rfl
  | l + 1, n => by simp [bytesOf, bytesOf_length l]
theorem bytesOf_get : ∀ (l n i : Nat), i < l → (bytesOf l n)[i]? = some (UInt8.ofNat (n / 256 ^ i))
  | 0, _, _, h => by omega
  | l + 1, n, 0, _ => by simp [bytesOf]
  | l + 1, n, i + 1, h => by
    simp only [bytesOf, List.getElem?_cons_succ]
    rw [bytesOf_get l (n / 256) i (by omega), Nat.div_div_eq_div_mul, Nat.pow_succ, Nat.mul_comm]
theorem bytesOf_drop : ∀ (i l n : Nat), (bytesOf l n).drop i = bytesOf (l - i) (n / 256 ^ i)
  | 0, l, n => by simp
  | i + 1, 0, n => by simp [bytesOf]
  | i + 1, l + 1, n => by
    simp only [bytesOf, List.drop_succ_cons]
    rw [bytesOf_drop i l (n / 256), Nat.div_div_eq_div_mul, Nat.pow_succ, Nat.mul_comm, Nat.add_sub_add_right]
theorem bytesOf_take : ∀ (i l n : Nat), i ≤ l → (bytesOf l n).take i = bytesOf i n
  | 0, l, n, _ => by simp [bytesOf]
  | i + 1, 0, n, h => by omega
  | i + 1, l + 1, n, h => by
    simp only [bytesOf, List.take_succ_cons]
    rw [bytesOf_take i l (n / 256) (by omega)]
theorem ofNat_mod (n : Nat) : UInt8.ofNat (n % 256) = UInt8.ofNat n := by
  apply UInt8.toNat.inj
  simp [UInt8.toNat_ofNat']
theorem bytesOf_mod : ∀ (l n : Nat), bytesOf l (n % 256 ^ l) = bytesOf l n
  | 0, _ => rfl
  | l + 1, n => by
    simp only [bytesOf]
    have h1 : n % 256 ^ (l + 1) % 256 = n % 256 := Nat.mod_mod_of_dvd n ⟨256 ^ l, by rw [Nat.pow_succ, Nat.mul_comm]⟩
    have h2 : n % 256 ^ (l + 1) / 256 = n / 256 % 256 ^ l := by
      rw [Nat.pow_succ, Nat.mul_comm, Nat.mod_mul_right_div_self]
    rw [← ofNat_mod (n % 256 ^ (l + 1)), h1, ofNat_mod, h2, bytesOf_mod l]
theorem bytesOf_append : ∀ (a b x y : Nat), bytesOf a x ++ bytesOf b y = bytesOf (a + b) (x % 256 ^ a + 256 ^ a * y)
  | 0, b, x, y => by simp [bytesOf, Nat.mod_one]
  | a + 1, b, x, y => by
    rw [show a + 1 + b = (a + b) + 1 from by omega]
    simp only [bytesOf, List.cons_append]
    have e1 : (x % 256 ^ (a + 1) + 256 ^ (a + 1) * y) % 256 = x % 256 := by
      rw [Nat.pow_succ, Nat.mul_comm (256 ^ a) 256, Nat.mul_assoc, Nat.add_mul_mod_self_left, Nat.mod_mul_right_mod]
    have e2 : (x % 256 ^ (a + 1) + 256 ^ (a + 1) * y) / 256 = x / 256 % 256 ^ a + 256 ^ a * y := by
      rw [Nat.pow_succ, Nat.mul_comm (256 ^ a) 256, Nat.mul_assoc, Nat.add_mul_div_left _ _ (by decide), Nat.mod_mul_right_div_self]
    rw [← ofNat_mod x, ← ofNat_mod (x % 256 ^ (a + 1) + 256 ^ (a + 1) * y), e1, e2, bytesOf_append a b]
theorem bytesOf_inj : ∀ (l x y : Nat), bytesOf l x = bytesOf l y ↔ x % 256 ^ l = y % 256 ^ l
  | 0, x, y => by simp [bytesOf, Nat.mod_one]
  | l + 1, x, y => by
    simp only [bytesOf, List.cons.injEq, bytesOf_inj l]
    have hx : ∀ x : Nat, x % 256 ^ (l + 1) = x % 256 + 256 * (x / 256 % 256 ^ l) := fun x => by
      rw [Nat.pow_succ, Nat.mul_comm (256 ^ l) 256, Nat.mod_mul]
    rw [hx x, hx y]
    constructor
    · rintro ⟨h1, h2⟩
      have h3 : x % 256 = y % 256 := by
        have := congrArg UInt8.toNat h1
        simpa [UInt8.toNat_ofNat'] using this
      rw [h2, h3]
    · intro h
      have hx2 := Nat.mod_lt x (show 256 > 0 by decide)
      have hy2 := Nat.mod_lt y (show 256 > 0 by decide)
      refine ⟨?_, by omega⟩
      have h3 : x % 256 = y % 256 := by omega
      rw [← ofNat_mod x, ← ofNat_mod y, h3]
/-- The bytes of a text as one number. -/
def numOf : List UInt8 → Nat
  | [] => 0
  | b :: l => b.toNat + 256 * numOf l
theorem bytesOf_numOf : ∀ (l : List UInt8), bytesOf l.length (numOf l) = l
  | [] => rfl
  | b :: l => by
    simp only [List.length_cons, bytesOf, numOf]
    have hb : b.toNat < 256 := UInt8.toNat_lt b
    rw [← ofNat_mod (b.toNat + 256 * numOf l), show (b.toNat + 256 * numOf l) % 256 = b.toNat from by omega, show (b.toNat + 256 * numOf l) / 256 = numOf l from by omega, bytesOf_numOf l]
    simp
/-- m bytes of y laid at off over x. -/
def splice (x off m y : Nat) : Nat := Nat.add (Nat.mod x (Nat.pow 256 off)) (Nat.mul (Nat.pow 256 off) (Nat.add (Nat.mod y (Nat.pow 256 m)) (Nat.mul (Nat.pow 256 m) (Nat.div x (Nat.pow 256 (Nat.add off m))))))
theorem splice_eq (l x off m y : Nat) (h : off + m ≤ l) : bytesOf l (splice x off m y) = (bytesOf l x).take off ++ bytesOf m y ++ (bytesOf l x).drop (off + m) := by
  rw [bytesOf_take off l x (by omega), bytesOf_drop, List.append_assoc, bytesOf_append m, bytesOf_append off]
  rw [show off + (m + (l - (off + m))) = l from by omega]
  rfl

/-! ### Abstract values -/
inductive AV where
  | bad
  | b (x : Bool)
  | i (k : IntKind) (n : Int)
  | s (len n : Nat)
  | pn
  | p (id off : Nat)
  | sn
  | se
  | sl (id off len cap : Nat)
  | sv (id off len k : Nat)
  | mn
  | m (id : Nat)
  | fn (f : Fn) (caps : AV)
  | fnil
  | inil
  | ifc (t : Nat) (v : AV)
  | nil
  | cons (h t : AV)
  | agg (l : AV)
  | tup (l : AV)
/-- Temporaries. -/
inductive En where
  | nil
  | cons (t : Nat) (v : AV) (r : En)
noncomputable def keepB (mask t : Nat) : Bool := Nat.beq (Nat.mod (Nat.shiftRight mask t) 2) 1
/-- Where the numbered blocks lie; a grown row's capacity. -/
abbrev Map := Nat → Option (Nat × Nat)
def Map.le (m m' : Map) : Prop := ∀ i x, m i = some x → m' i = some x
theorem Map.le_refl (m : Map) : Map.le m m := fun _ _ h => h
theorem Map.le_trans {a b c : Map} (h : Map.le a b) (k : Map.le b c) : Map.le a c := fun i x e => k i x (h i x e)
/-- Functions; a loop's yield by the loop's number. -/
def fnRel (m : Map) : Fn → Fn → Prop
  | .yield i, g => ∃ b c, m i = some (b, c) ∧ g = .yield b
  | f, g => g = f
theorem fnRel.mono {m m' : Map} (hm : Map.le m m') {f g : Fn} (h : fnRel m f g) : fnRel m' f g := by
  cases f with
  | yield i => obtain ⟨b, c, h1, h2⟩ := h; exact ⟨b, c, hm _ _ h1, h2⟩
  | _ => exact h
/-- A function value: a method value holds its receiver ahead. -/
def mkFn (g : Fn) (vs : List Value) : Value := match g with
  | .method _ => .func g vs.toArray #[]
  | _ => .func g #[] vs.toArray
theorem mkFn_eq (g : Fn) (vs : List Value) : ∃ x y, mkFn g vs = .func g x y := by cases g <;> exact ⟨_, _, rfl⟩
mutual
def rel (m : Map) : AV → Value → Prop
  | .bad, _ => True
  | .b x, u => u = .bool x
  | .i k n, u => u = .int k n
  | .s l n, u => u = strV (bytesOf l n)
  | .pn, u => u = .pointer none
  | .p id off, u => ∃ b c, m id = some (b, c) ∧ u = ptr b off
  | .sn, u => u = .slice none 0 0
  | .se, u => ∃ a c, u = .slice a 0 c
  | .sl id off n cap, u => ∃ b c, m id = some (b, c) ∧ u = slc b off n cap ∧ n ≤ cap
  | .sv id off n k, u => ∃ b c, m id = some (b, c) ∧ n + k ≤ c ∧ u = slc b off n (c - k)
  | .mn, u => u = .map none
  | .m id, u => ∃ b c, m id = some (b, c) ∧ u = .map (some b)
  | .fn f caps, u => ∃ vs g, relL m caps vs ∧ fnRel m f g ∧ u = mkFn g vs
  | .fnil, u => u = .nilFunc
  | .inil, u => u = .nilIface
  | .ifc t v, u => ∃ x, rel m v x ∧ u = .iface t x
  | .nil, _ => False
  | .cons _ _, _ => False
  | .agg l, u => ∃ vs, relL m l vs ∧ u = .agg vs.toArray
  | .tup l, u => ∃ vs, relL m l vs ∧ u = .tuple vs.toArray
def relL (m : Map) : AV → List Value → Prop
  | .nil, vs => vs = []
  | .cons h t, vs => ∃ u us, rel m h u ∧ relL m t us ∧ vs = u :: us
  | _, _ => False
end
theorem rel_mono {m m' : Map} (hm : Map.le m m') : ∀ (v : AV), (∀ u, rel m v u → rel m' v u) ∧ (∀ us, relL m v us → relL m' v us) := by
  intro v
  induction v with
  | p id off => exact ⟨fun u ⟨b, c, h1, h2⟩ => ⟨b, c, hm _ _ h1, h2⟩, fun _ h => h⟩
  | sl id off n cap => exact ⟨fun u ⟨b, c, h1, h2⟩ => ⟨b, c, hm _ _ h1, h2⟩, fun _ h => h⟩
  | sv id off n k => exact ⟨fun u ⟨b, c, h1, h2⟩ => ⟨b, c, hm _ _ h1, h2⟩, fun _ h => h⟩
  | m id => exact ⟨fun u ⟨b, c, h1, h2⟩ => ⟨b, c, hm _ _ h1, h2⟩, fun _ h => h⟩
  | fn f caps ih => exact ⟨fun u ⟨vs, g, h1, h2, h3⟩ => ⟨vs, g, ih.2 _ h1, h2.mono hm, h3⟩, fun _ h => h⟩
  | ifc t v ih => exact ⟨fun u ⟨x, h1, h2⟩ => ⟨x, ih.1 _ h1, h2⟩, fun _ h => h⟩
  | agg l ih => exact ⟨fun u ⟨vs, h1, h2⟩ => ⟨vs, ih.2 _ h1, h2⟩, fun _ h => h⟩
  | tup l ih => exact ⟨fun u ⟨vs, h1, h2⟩ => ⟨vs, ih.2 _ h1, h2⟩, fun _ h => h⟩
  | cons a l iha ihl => exact ⟨fun u h => h, fun us ⟨x, xs, h1, h2, h3⟩ => ⟨x, xs, iha.1 _ h1, ihl.2 _ h2, h3⟩⟩
  | _ => exact ⟨fun u h => h, fun _ h => h⟩
theorem rel.mono {m m' : Map} (hm : Map.le m m') {v : AV} {u : Value} (h : rel m v u) : rel m' v u := (rel_mono hm v).1 u h
theorem relL.mono {m m' : Map} (hm : Map.le m m') {v : AV} {u : List Value} (h : relL m v u) : relL m' v u := (rel_mono hm v).2 u h

/-! ### Trees by number -/
inductive Tr (α : Type) where
  | nil
  | nd (l : Tr α) (o : Option α) (r : Tr α)
variable {α : Type}
noncomputable def Tr.get (t : Tr α) : Nat → Option α :=
  Tr.rec (motive := fun _ => Nat → Option α) (fun _ => none)
    (fun _ o _ ihl ihr k => Bool.rec (motive := fun _ => Option α) (Nat.rec (motive := fun _ => Option α) (ihl (Nat.div k 2)) (fun _ _ => ihr (Nat.div k 2)) (Nat.mod k 2)) o (Nat.ble k 1)) t
theorem Tr.get_nil (k : Nat) : (Tr.nil : Tr α).get k = none := rfl
theorem rec_bit {β : Type} (k : Nat) (x y : β) : Nat.rec (motive := fun _ => β) x (fun _ _ => y) (Nat.mod k 2) = if k % 2 = 0 then x else y := by
  show Nat.rec (motive := fun _ => β) x (fun _ _ => y) (k % 2) = _
  rcases Nat.mod_two_eq_zero_or_one k with h | h <;> rw [h] <;> rfl
theorem Tr.get_nd (l : Tr α) (o : Option α) (r : Tr α) (k : Nat) : (Tr.nd l o r).get k = if k ≤ 1 then o else if k % 2 = 0 then l.get (k / 2) else r.get (k / 2) := by
  show Bool.rec (motive := fun _ => Option α) (Nat.rec (motive := fun _ => Option α) (l.get (Nat.div k 2)) (fun _ _ => r.get (Nat.div k 2)) (Nat.mod k 2)) o (Nat.ble k 1) = _
  rw [rec_bit]
  by_cases h : k ≤ 1
  · rw [if_pos h, Nat.ble_eq_true_of_le h]
  · rw [if_neg h, show Nat.ble k 1 = false from by cases hb : Nat.ble k 1 with | false => rfl | true => exact absurd (Nat.le_of_ble_eq_true hb) h]
    rfl
/-- The tree with another value (or none) at k. -/
def Tr.sing (v : Option α) : Nat → Nat → Tr α
  | 0, _ => .nil
  | d + 1, k => if k ≤ 1 then .nd .nil v .nil else if k % 2 = 0 then .nd (Tr.sing v d (k / 2)) none .nil else .nd .nil none (Tr.sing v d (k / 2))
def Tr.set (v : Option α) : Tr α → Nat → Tr α
  | .nil, k => Tr.sing v k k
  | .nd l o r, k => if k ≤ 1 then .nd l v r else if k % 2 = 0 then .nd (Tr.set v l (k / 2)) o r else .nd l o (Tr.set v r (k / 2))
def Tr.entries : Tr α → (Nat → Nat) → List (Nat × α)
  | .nil, _ => []
  | .nd l o r, f => (match o with | some v => [(f 1, v)] | none => []) ++ (l.entries (fun j => f (2 * j)) ++ r.entries (fun j => f (2 * j + 1)))
theorem Tr.entries_sing (v : α) : ∀ (d k : Nat) (f : Nat → Nat), 1 ≤ k → k ≤ d → (Tr.sing (some v) d k).entries f = [(f k, v)]
  | 0, k, f, h1, h2 => by omega
  | d + 1, k, f, h1, h2 => by
    unfold Tr.sing
    by_cases h : k ≤ 1
    · obtain rfl : k = 1 := by omega
      simp [Tr.entries]
    · rw [if_neg h]
      have e := Nat.div_add_mod k 2
      by_cases hm : k % 2 = 0
      · rw [if_pos hm]
        simp only [Tr.entries, List.nil_append, List.append_nil]
        rw [Tr.entries_sing v d (k / 2) _ (by omega) (by omega), show 2 * (k / 2) = k from by omega]
      · rw [if_neg hm]
        simp only [Tr.entries, List.nil_append]
        rw [Tr.entries_sing v d (k / 2) _ (by omega) (by omega), show 2 * (k / 2) + 1 = k from by omega]
theorem Tr.entries_sing_none : ∀ (d k : Nat) (f : Nat → Nat), (Tr.sing (none : Option α) d k).entries f = []
  | 0, k, f => rfl
  | d + 1, k, f => by
    unfold Tr.sing
    split
    · simp [Tr.entries]
    · split <;> simp [Tr.entries, Tr.entries_sing_none d]
def eopt (k : Nat) : Option α → List (Nat × α)
  | some v => [(k, v)]
  | none => []
/-- One key seen alone: what else there is stays. -/
theorem Tr.lens : ∀ (t : Tr α) (k : Nat) (f : Nat → Nat), 1 ≤ k → ∃ R, (t.entries f).Perm (eopt (f k) (t.get k) ++ R) ∧ ∀ v, ((Tr.set v t k).entries f).Perm (eopt (f k) v ++ R)
  | .nil, k, f, h1 => ⟨[], by simp [Tr.get_nil, Tr.entries, eopt], fun v => by
      cases v with
      | none => simp [Tr.set, Tr.entries_sing_none, eopt]
      | some v => simp [Tr.set, Tr.entries_sing v k k f h1 (Nat.le_refl _), eopt]⟩
  | .nd l o r, k, f, h1 => by
    rw [Tr.get_nd]
    unfold Tr.set
    by_cases h : k ≤ 1
    · obtain rfl : k = 1 := by omega
      simp only [Nat.le_refl, if_true]
      refine ⟨l.entries (fun j => f (2 * j)) ++ r.entries (fun j => f (2 * j + 1)), ?_, fun v => ?_⟩
      · cases o <;> exact List.Perm.refl _
      · cases v <;> exact List.Perm.refl _
    · simp only [h, if_false]
      have e := Nat.div_add_mod k 2
      by_cases hm : k % 2 = 0
      · simp only [hm, if_true]
        obtain ⟨R, h2, h3⟩ := Tr.lens l (k / 2) (fun j => f (2 * j)) (by omega)
        simp only [show 2 * (k / 2) = k from by omega] at h2 h3
        refine ⟨eopt (f 1) o ++ (R ++ r.entries (fun j => f (2 * j + 1))), ?_, fun v => ?_⟩
        · have e1 : (Tr.nd l o r).entries f = eopt (f 1) o ++ (l.entries (fun j => f (2 * j)) ++ r.entries (fun j => f (2 * j + 1))) := by cases o <;> rfl
          rw [e1]
          refine ((List.Perm.refl _).append (h2.append (List.Perm.refl _))).trans ?_
          rw [← List.append_assoc, ← List.append_assoc, ← List.append_assoc, ← List.append_assoc]
          exact ((List.perm_append_comm).append (List.Perm.refl _)).append (List.Perm.refl _)
        · have e1 : (Tr.nd (Tr.set v l (k / 2)) o r).entries f = eopt (f 1) o ++ ((Tr.set v l (k / 2)).entries (fun j => f (2 * j)) ++ r.entries (fun j => f (2 * j + 1))) := by cases o <;> rfl
          rw [e1]
          refine ((List.Perm.refl _).append ((h3 v).append (List.Perm.refl _))).trans ?_
          rw [← List.append_assoc, ← List.append_assoc, ← List.append_assoc, ← List.append_assoc]
          exact ((List.perm_append_comm).append (List.Perm.refl _)).append (List.Perm.refl _)
      · simp only [hm, if_false]
        obtain ⟨R, h2, h3⟩ := Tr.lens r (k / 2) (fun j => f (2 * j + 1)) (by omega)
        simp only [show 2 * (k / 2) + 1 = k from by omega] at h2 h3
        refine ⟨eopt (f 1) o ++ (l.entries (fun j => f (2 * j)) ++ R), ?_, fun v => ?_⟩
        · have e1 : (Tr.nd l o r).entries f = eopt (f 1) o ++ (l.entries (fun j => f (2 * j)) ++ r.entries (fun j => f (2 * j + 1))) := by cases o <;> rfl
          rw [e1]
          refine ((List.Perm.refl _).append ((List.Perm.refl _).append h2)).trans ?_
          rw [← List.append_assoc, ← List.append_assoc, ← List.append_assoc, ← List.append_assoc]
          exact (List.perm_append_comm.trans (by rw [List.append_assoc])).append (List.Perm.refl _)
        · have e1 : (Tr.nd l o (Tr.set v r (k / 2))).entries f = eopt (f 1) o ++ (l.entries (fun j => f (2 * j)) ++ (Tr.set v r (k / 2)).entries (fun j => f (2 * j + 1))) := by cases o <;> rfl
          rw [e1]
          refine ((List.Perm.refl _).append ((List.Perm.refl _).append (h3 v))).trans ?_
          rw [← List.append_assoc, ← List.append_assoc, ← List.append_assoc, ← List.append_assoc]
          exact (List.perm_append_comm.trans (by rw [List.append_assoc])).append (List.Perm.refl _)
theorem Tr.get_sing (v : Option α) : ∀ (d k j : Nat), 1 ≤ k → k ≤ d → 1 ≤ j → (Tr.sing v d k).get j = if j = k then v else none
  | 0, k, j, h1, h2, _ => by omega
  | d + 1, k, j, h1, h2, h3 => by
    unfold Tr.sing
    have e := Nat.div_add_mod k 2
    have e' := Nat.div_add_mod j 2
    by_cases h : k ≤ 1
    · obtain rfl : k = 1 := by omega
      rw [if_pos h, Tr.get_nd]
      by_cases hj : j ≤ 1
      · rw [if_pos hj, if_pos (by omega)]
      · rw [if_neg hj, if_neg (show ¬ j = 1 by omega)]
        split <;> rfl
    · rw [if_neg h]
      by_cases hm : k % 2 = 0
      · rw [if_pos hm, Tr.get_nd]
        by_cases hj : j ≤ 1
        · rw [if_pos hj, if_neg (by omega)]
        · rw [if_neg hj]
          by_cases hj2 : j % 2 = 0
          · rw [if_pos hj2, Tr.get_sing v d _ _ (by omega) (by omega) (by omega)]
            by_cases hk : j = k
            · rw [if_pos hk, if_pos (by rw [hk])]
            · rw [if_neg hk, if_neg (by omega)]
          · rw [if_neg hj2, if_neg (by intro g; rw [g] at hj2; exact hj2 hm), Tr.get_nil]
      · rw [if_neg hm, Tr.get_nd]
        by_cases hj : j ≤ 1
        · rw [if_pos hj, if_neg (by omega)]
        · rw [if_neg hj]
          by_cases hj2 : j % 2 = 0
          · rw [if_pos hj2, if_neg (by intro g; rw [g] at hj2; exact hm hj2), Tr.get_nil]
          · rw [if_neg hj2, Tr.get_sing v d _ _ (by omega) (by omega) (by omega)]
            by_cases hk : j = k
            · rw [if_pos hk, if_pos (by rw [hk])]
            · rw [if_neg hk, if_neg (by omega)]
theorem Tr.get_set (v : Option α) : ∀ (t : Tr α) (k j : Nat), 1 ≤ k → 1 ≤ j → (Tr.set v t k).get j = if j = k then v else t.get j
  | .nil, k, j, h1, h2 => by rw [Tr.set, Tr.get_sing v k k j h1 (Nat.le_refl _) h2]; rfl
  | .nd l o r, k, j, h1, h2 => by
    unfold Tr.set
    have e := Nat.div_add_mod k 2
    have e' := Nat.div_add_mod j 2
    by_cases h : k ≤ 1
    · obtain rfl : k = 1 := by omega
      rw [if_pos h, Tr.get_nd, Tr.get_nd]
      by_cases hj : j ≤ 1
      · rw [if_pos hj, if_pos (by omega)]
      · rw [if_neg hj, if_neg (show ¬ j = 1 by omega), if_neg hj]
    · rw [if_neg h]
      by_cases hm : k % 2 = 0
      · rw [if_pos hm, Tr.get_nd, Tr.get_nd]
        by_cases hj : j ≤ 1
        · rw [if_pos hj, if_pos hj, if_neg (by omega)]
        · rw [if_neg hj, if_neg hj]
          by_cases hj2 : j % 2 = 0
          · rw [if_pos hj2, if_pos hj2, Tr.get_set v l _ _ (by omega) (by omega)]
            by_cases hk : j = k
            · rw [if_pos hk, if_pos (by rw [hk])]
            · rw [if_neg hk, if_neg (by omega)]
          · rw [if_neg hj2, if_neg hj2, if_neg (by intro g; rw [g] at hj2; exact hj2 hm)]
      · rw [if_neg hm, Tr.get_nd, Tr.get_nd]
        by_cases hj : j ≤ 1
        · rw [if_pos hj, if_pos hj, if_neg (by omega)]
        · rw [if_neg hj, if_neg hj]
          by_cases hj2 : j % 2 = 0
          · rw [if_pos hj2, if_pos hj2, if_neg (by intro g; rw [g] at hj2; exact hm hj2)]
          · rw [if_neg hj2, if_neg hj2, Tr.get_set v r _ _ (by omega) (by omega)]
            by_cases hk : j = k
            · rw [if_pos hk, if_pos (by rw [hk])]
            · rw [if_neg hk, if_neg (by omega)]

/-! For the kernel: the same with what goes on behind it -/
/-- A number, as a number that is written out. -/
noncomputable def natK (n : Nat) (K : Nat → Bool) : Bool := Nat.rec (motive := fun _ => (Nat → Bool) → Bool) (fun K => K 0) (fun m _ K => K (Nat.succ m)) n K
theorem natK_eq (n : Nat) (K : Nat → Bool) : natK n K = K n := by cases n <;> rfl
noncomputable def intK (n : Int) (K : Int → Bool) : Bool := Int.rec (motive := fun _ => (Int → Bool) → Bool) (fun m K => natK m fun m => K (Int.ofNat m)) (fun m K => natK m fun m => K (Int.negSucc m)) n K
theorem intK_eq (n : Int) (K : Int → Bool) : intK n K = K n := by
  cases n with
  | ofNat m => show natK m _ = _; rw [natK_eq]
  | negSucc m => show natK m _ = _; rw [natK_eq]
noncomputable def singK (v : Option α) (d : Nat) : Nat → (Tr α → Bool) → Bool :=
  Nat.rec (motive := fun _ => Nat → (Tr α → Bool) → Bool) (fun _ K => K .nil)
    (fun _ ih k K => Bool.rec (motive := fun _ => Bool)
      (Nat.rec (motive := fun _ => Bool) (ih (Nat.div k 2) fun l => K (.nd l none .nil)) (fun _ _ => ih (Nat.div k 2) fun r => K (.nd .nil none r)) (Nat.mod k 2)) (K (.nd .nil v .nil)) (Nat.ble k 1)) d
theorem rec_ble {β : Type} (k n : Nat) (x y : β) : Bool.rec (motive := fun _ => β) x y (Nat.ble k n) = if k ≤ n then y else x := by
  by_cases h : k ≤ n
  · rw [if_pos h, Nat.ble_eq_true_of_le h]
  · rw [if_neg h, show Nat.ble k n = false from by cases hb : Nat.ble k n with | false => rfl | true => exact absurd (Nat.le_of_ble_eq_true hb) h]
theorem singK_eq (v : Option α) : ∀ (d k : Nat) (K : Tr α → Bool), singK v d k K = K (Tr.sing v d k)
  | 0, _, _ => rfl
  | d + 1, k, K => by
    show Bool.rec (motive := fun _ => Bool) (Nat.rec (motive := fun _ => Bool) (singK v d (Nat.div k 2) fun l => K (.nd l none .nil)) (fun _ _ => singK v d (Nat.div k 2) fun r => K (.nd .nil none r)) (Nat.mod k 2)) (K (.nd .nil v .nil)) (Nat.ble k 1) = _
    rw [rec_ble, rec_bit, singK_eq v d, singK_eq v d, Tr.sing]
    split
    · rfl
    · split <;> rfl
noncomputable def setK (v : Option α) (t : Tr α) : Nat → (Tr α → Bool) → Bool :=
  Tr.rec (motive := fun _ => Nat → (Tr α → Bool) → Bool) (fun k K => singK v k k K)
    (fun l o r ihl ihr k K => Bool.rec (motive := fun _ => Bool)
      (Nat.rec (motive := fun _ => Bool) (ihl (Nat.div k 2) fun l => K (.nd l o r)) (fun _ _ => ihr (Nat.div k 2) fun r => K (.nd l o r)) (Nat.mod k 2)) (K (.nd l v r)) (Nat.ble k 1)) t
theorem setK_eq (v : Option α) : ∀ (t : Tr α) (k : Nat) (K : Tr α → Bool), setK v t k K = K (Tr.set v t k)
  | .nil, k, K => singK_eq v k k K
  | .nd l o r, k, K => by
    show Bool.rec (motive := fun _ => Bool) (Nat.rec (motive := fun _ => Bool) (setK v l (Nat.div k 2) fun l => K (.nd l o r)) (fun _ _ => setK v r (Nat.div k 2) fun r => K (.nd l o r)) (Nat.mod k 2)) (K (.nd l v r)) (Nat.ble k 1) = _
    rw [rec_ble, rec_bit, setK_eq v l, setK_eq v r, Tr.set]
    split
    · rfl
    · split <;> rfl
end Go.Evl
namespace Go.Evl
open Go Go.Sl

inductive Body where
  | bs (len n : Nat)
  | bu (len k n : Nat)
  | tr (size : Nat) (t : Tr AV)
/-- A row of cells of element type T: all of it (z = 0), or (z cells an element) the beginning of a row that has grown. -/
inductive Blk where
  | cells (T z : Nat) (c : Body)
  | it (l n pos : Nat)
  | mp (ks vs : AV)
  | mi (id k n : Nat)
  | lp (E : En) (ps : Array Tmp) (assign body : Code) (mask N : Nat) (st : LoopState) (pend : Option Code)
  | gd (g : Nat) (c : Body) (T : Nat) (cs : List Value)
structure Hp where
  next : Nat
  t : Tr Blk

def bodyRel (m : Map) : Body → List Value → Prop
  | .bs len n, vs => vs = (bytesOf len n).map u8V
  | .bu len k n, vs => vs.length = len ∧ k ≤ len ∧ vs.take k = (bytesOf k n).map u8V
  | .tr size t, vs => vs.length = size ∧ (∀ i, size ≤ i → t.get (i + 1) = none) ∧ ∀ i v u, t.get (i + 1) = some v → vs[i]? = some u → rel m v u
theorem bodyRel.mono {m m' : Map} (hm : Map.le m m') {c : Body} {vs : List Value} (h : bodyRel m c vs) : bodyRel m' c vs := by
  cases c with
  | bs len n => exact h
  | bu len k n => exact h
  | tr size t => exact ⟨h.1, h.2.1, fun i v u h1 h2 => (h.2.2 i v u h1 h2).mono hm⟩
def Body.size : Body → Nat
  | .bs len _ => len
  | .bu len _ _ => len
  | .tr size _ => size
theorem bodyRel.len {m : Map} {c : Body} {vs : List Value} (h : bodyRel m c vs) : vs.length = c.size := by
  cases c with
  | bs len n => rw [show vs = _ from h]; simp [bytesOf_length, Body.size]
  | bu len k n => exact h.1
  | tr size t => exact h.1
/-- What is known of the rest behind the known cells. -/
def restOk (z cap : Nat) (vs rest : List Value) : Prop :=
  (z = 0 → rest = []) ∧ (z ≠ 0 → (vs ++ rest).length = cap * z ∧ cap ≤ 9223372036854775807 ∧ ∃ n, vs.length = n * z)
/-- A map's keys and values, in the order in which they came. -/
def entsV : Nat → List (Value × Value) → List MapEntry
  | _, [] => []
  | i, (k, v) :: r => { key := k, val := v, born := i } :: entsV (i + 1) r
/-- A temporary's value. -/
noncomputable def look (L E : En) (t : Nat) : AV :=
  En.rec (motive := fun _ => En → Nat → AV) (fun E t => En.rec (motive := fun _ => Nat → AV) (fun _ => .bad) (fun t' v _ ih t => Bool.rec (motive := fun _ => AV) (ih t) v (Nat.beq t t')) E t)
    (fun t' v _ ih E t => Bool.rec (motive := fun _ => AV) (ih E t) v (Nat.beq t t')) L E t
def EnvRel (m : Map) (L E : En) (e : Env) : Prop := ∀ t, rel m (look L E t) (e t)
theorem EnvRel.mono {m m' : Map} {L E : En} {e : Env} (h : EnvRel m L E e) (hm : Map.le m m') : EnvRel m' L E e := fun t => (h t).mono hm
def NK (mask : Nat) (E : En) : Prop := ∀ t, keepB mask t = false → look .nil E t = .bad
/-- The numbers of the entries that a walk over a map has seen. -/
def seenA (k : Nat) : Array Nat := (List.range k).toArray
def objRel (m : Map) : Blk → Obj → Prop
  | .cells _ _ _, _ => False
  | .it l n pos, o => o = .stringIter ⟨(bytesOf l n).toArray⟩ pos
  | .mp ks vs, o => ∃ kvs : List (Value × Value), relL m ks (kvs.map (·.1)) ∧ relL m vs (kvs.map (·.2)) ∧ o = .map (entsV 0 kvs).toArray kvs.length
  | .mi id k n, o => ∃ b c, m id = some (b, c) ∧ o = .mapIter (some b) n (seenA k) n
  | .lp E ps assign body mask N st pend, o => ∃ (fn : FuncId) (tmps : Array Value) (d : Nat) (e : Env), tmps.size = N ∧ (∀ t, tmps.getD t undef = e t) ∧ EnvRel m .nil E e ∧ NK mask E ∧
      o = .loop { state := st, pending := pend, fn := fn, tmps := tmps, params := ps, assign := assign, body := body, defers := d }
  | .gd _ _ _ _, _ => False
theorem objRel.mono {m m' : Map} (hm : Map.le m m') {B : Blk} {o : Obj} (h : objRel m B o) : objRel m' B o := by
  cases B with
  | cells T z c => exact h.elim
  | it l n pos => exact h
  | mp ks vs => obtain ⟨kvs, h1, h2, h3⟩ := h; exact ⟨kvs, h1.mono hm, h2.mono hm, h3⟩
  | mi id k n => obtain ⟨b, c, h1, h2⟩ := h; exact ⟨b, c, hm _ _ h1, h2⟩
  | lp E ps assign body mask N st pend => obtain ⟨fn, tmps, d, e, h1, h2, h3, h4⟩ := h; exact ⟨fn, tmps, d, e, h1, h2, h3.mono hm, h4⟩
  | gd g c T cs => exact h.elim
def asnO (m : Map) (id : Nat) (B : Blk) : Assn := fun h => ∃ b cap o, m id = some (b, cap) ∧ objRel m B o ∧ blk b o h
def asn (m : Map) : Nat × Blk → Assn
  | (id, .cells T z c) => fun h => ∃ b cap vs rest, m id = some (b, cap) ∧ bodyRel m c vs ∧ restOk z cap vs rest ∧ row b T (vs ++ rest) h
  | (id, .it l n pos) => asnO m id (.it l n pos)
  | (id, .mp ks vs) => asnO m id (.mp ks vs)
  | (id, .mi i k n) => asnO m id (.mi i k n)
  | (id, .lp E ps assign body mask N st pend) => asnO m id (.lp E ps assign body mask N st pend)
  | (id, .gd g c T cs) => fun h => m id = some (g, 0) ∧ bodyRel m c cs ∧ blk g (.cells cs.toArray T (0, 0)) h
theorem asn_mono {m m' : Map} (hm : Map.le m m') (x : Nat × Blk) : ∀ h, asn m x h → asn m' x h := by
  obtain ⟨id, blk⟩ := x
  cases blk with
  | cells T z c => exact fun h ⟨b, cap, vs, rest, h1, h2, h3, h4⟩ => ⟨b, cap, vs, rest, hm _ _ h1, h2.mono hm, h3, h4⟩
  | it l n pos => exact fun h ⟨b, cap, o, h1, h2, h3⟩ => ⟨b, cap, o, hm _ _ h1, h2.mono hm, h3⟩
  | mp ks vs => exact fun h ⟨b, cap, o, h1, h2, h3⟩ => ⟨b, cap, o, hm _ _ h1, h2.mono hm, h3⟩
  | mi i k n => exact fun h ⟨b, cap, o, h1, h2, h3⟩ => ⟨b, cap, o, hm _ _ h1, h2.mono hm, h3⟩
  | lp E ps assign body mask N st pend => exact fun h ⟨b, cap, o, h1, h2, h3⟩ => ⟨b, cap, o, hm _ _ h1, h2.mono hm, h3⟩
  | gd g c T cs => exact fun h ⟨h1, h2, h3⟩ => ⟨hm _ _ h1, h2.mono hm, h3⟩
def hpA (m : Map) (t : Tr Blk) : List Assn := (t.entries id).map (asn m)
theorem Ent.listMono {m m' : Map} (hm : Map.le m m') : ∀ (l : List (Nat × Blk)), Ent (sep (l.map (asn m))) (sep (l.map (asn m')))
  | [] => Ent.refl _
  | x :: l => Ent.cons (Ent.of_imp (asn_mono hm x)) (Ent.listMono hm l)
/-- Nothing stands yet behind the next number. -/
def Inv (m : Map) (H : Hp) : Prop := 1 ≤ H.next ∧ ∀ i, H.next ≤ i → m i = none
def Map.put (m : Map) (i : Nat) (x : Nat × Nat) : Map := fun j => if j = i then some x else m j
theorem Map.le_put {m : Map} {i : Nat} {x : Nat × Nat} (h : m i = none) : Map.le m (m.put i x) := by
  intro j y hj
  unfold Map.put
  split
  · rename_i g; rw [g, h] at hj; cases hj
  · exact hj
theorem Map.put_self {m : Map} {i : Nat} {x : Nat × Nat} : m.put i x i = some x := by unfold Map.put; simp
theorem Inv.put {m : Map} {H : Hp} {x : Nat × Nat} (h : Inv m H) (t : Tr Blk) : Inv (m.put H.next x) ⟨H.next + 1, t⟩ := by
  refine ⟨Nat.le_succ_of_le h.1, fun i hi => ?_⟩
  unfold Map.put
  have hi' : H.next + 1 ≤ i := hi
  rw [if_neg (by omega)]
  exact h.2 i (by omega)
theorem Inv.le {m : Map} {H : Hp} {x : Nat × Nat} (h : Inv m H) : Map.le m (m.put H.next x) := Map.le_put (h.2 _ (Nat.le_refl _))
theorem Inv.tree {m : Map} {H : Hp} (h : Inv m H) (t : Tr Blk) : Inv m ⟨H.next, t⟩ := h

section lens
variable {m : Map} {Fr : Assn}
theorem Ent.eopt {m : Map} {k : Nat} {o : Option Blk} {L R : List (Nat × Blk)} (h : L.Perm (eopt k o ++ R)) : Ent (sep (L.map (asn m) ++ [Fr])) (sep ((Evl.eopt k o).map (asn m) ++ (R.map (asn m) ++ [Fr]))) := by
  rw [← List.append_assoc, ← List.map_append]
  exact Ent.perm ((h.map _).append (List.Perm.refl _))
/-- A block seen alone; laid back, changed or not; or taken away for good. -/
theorem hp_lens (t : Tr Blk) (k : Nat) (hk : 1 ≤ k) : ∃ R : List (Nat × Blk),
    (∀ m blk, t.get k = some blk → Ent (sep (hpA m t ++ [Fr])) (sep (asn m (k, blk) :: (R.map (asn m) ++ [Fr])))) ∧
    (∀ m blk, Ent (sep (asn m (k, blk) :: (R.map (asn m) ++ [Fr]))) (sep (hpA m (Tr.set (some blk) t k) ++ [Fr]))) ∧
    (∀ m, Ent (sep (R.map (asn m) ++ [Fr])) (sep (hpA m (Tr.set none t k) ++ [Fr]))) := by
  obtain ⟨R, h1, h2⟩ := Tr.lens t k id hk
  refine ⟨R, fun m blk hb => ?_, fun m blk => ?_, fun m => ?_⟩
  · have := Ent.eopt (Fr := Fr) (m := m) h1
    rw [hb] at this
    exact this
  · have := Ent.perm (((h2 (some blk)).map (asn m)).symm.append (List.Perm.refl [Fr]))
    exact this
  · have := Ent.perm (((h2 none).map (asn m)).symm.append (List.Perm.refl [Fr]))
    exact this
theorem hp_new (t : Tr Blk) (k : Nat) (hk : 1 ≤ k) (m : Map) (blk : Blk) : Ent (sep (asn m (k, blk) :: (hpA m t ++ [Fr]))) (sep (hpA m (Tr.set (some blk) t k) ++ [Fr])) := by
  obtain ⟨R, h1, h2⟩ := Tr.lens t k id hk
  have e1 : Ent (sep (hpA m t ++ [Fr])) (sep (R.map (asn m) ++ [Fr])) := by
    have := Ent.eopt (Fr := Fr) (m := m) h1
    refine this.trans ?_
    cases t.get k with
    | none => exact Ent.refl _
    | some b => exact Ent.drop _ _
  have e2 := Ent.perm (((h2 (some blk)).map (asn m)).symm.append (List.Perm.refl [Fr]))
  exact (Ent.cons (Ent.refl _) e1).trans e2
theorem hp_mono {m m' : Map} (hm : Map.le m m') (t : Tr Blk) : Ent (sep (hpA m t ++ [Fr])) (sep (hpA m' t ++ [Fr])) :=
  Ent.append (Ent.listMono hm _) (Ent.refl _)
end lens
theorem Sat.asn {W0 w : World} {m : Map} {k T z : Nat} {c : Body} {L : List Assn} (s : Sat W0 (sep (Evl.asn m (k, .cells T z c) :: L)) w) :
    ∃ b cap vs rest, m k = some (b, cap) ∧ bodyRel m c vs ∧ restOk z cap vs rest ∧ Sat W0 (sep (row b T (vs ++ rest) :: L)) w := by
  obtain ⟨k', x, hx, h1, h2, d, rfl, ⟨b, cap, vs, rest, e1, e2, e3, e4⟩, hl⟩ := s
  exact ⟨b, cap, vs, rest, e1, e2, e3, k', _, hx, h1, h2, d, rfl, e4, hl⟩
theorem Ent.asn {m : Map} {k T z b cap : Nat} {c : Body} {vs rest : List Value} (h1 : m k = some (b, cap)) (h2 : bodyRel m c vs) (h3 : restOk z cap vs rest) : Ent (row b T (vs ++ rest)) (Evl.asn m (k, .cells T z c)) :=
  Ent.of_imp fun _ h => ⟨b, cap, vs, rest, h1, h2, h3, h⟩

/-! ### Rows: cells read, cells written -/
/-- The cell at i. -/
noncomputable def cellK (c : Body) (i : Nat) (K : AV → Bool) : Bool :=
  Body.rec (motive := fun _ => Nat → (AV → Bool) → Bool)
    (fun len n i K => Bool.rec (motive := fun _ => Bool) false (natK (Nat.mod (Nat.div n (Nat.pow 256 i)) 256) fun b => K (.i .u8 (Int.ofNat b))) (Nat.blt i len))
    (fun _ _ _ _ _ => false)
    (fun size t i K => Bool.rec (motive := fun _ => Bool) false (Option.rec (motive := fun _ => Bool) false (fun v => K v) (t.get (Nat.succ i))) (Nat.blt i size)) c i K
theorem rec_false {x c : Bool} (h : Bool.rec (motive := fun _ => Bool) false x c = true) : c = true ∧ x = true := by
  cases c
  · cases h
  · exact ⟨rfl, h⟩
theorem blt_lt {a b : Nat} (h : Nat.blt a b = true) : a < b := by simpa using h
theorem cellK_sound {m : Map} {c : Body} {i : Nat} {K : AV → Bool} (h : cellK c i K = true) : i < c.size ∧ ∃ v, K v = true ∧ ∀ vs u, bodyRel m c vs → vs[i]? = some u → rel m v u := by
  cases c with
  | bs len n =>
    obtain ⟨h1, h2⟩ := rec_false h
    rw [natK_eq] at h2
    refine ⟨blt_lt h1, _, h2, ?_⟩
    rintro vs u rfl hu
    rw [List.getElem?_map, bytesOf_get len n i (blt_lt h1)] at hu
    simp only [Option.map_some, Option.some.injEq] at hu
    subst hu
    show u8V _ = Value.int _ _
    simp only [u8V, UInt8.toNat_ofNat']
    rfl
  | bu len k n => cases h
  | tr size t =>
    obtain ⟨h1, h2⟩ := rec_false h
    cases hg : t.get (Nat.succ i) with
    | none => rw [hg] at h2; cases h2
    | some v =>
      rw [hg] at h2
      exact ⟨blt_lt h1, v, h2, fun vs u hb hu => hb.2.2 i v u hg hu⟩
/-- The n cells from off on, as a list; what comes behind. -/
noncomputable def cellsK (c : Body) (off n : Nat) : AV → (AV → Bool) → Bool :=
  Nat.rec (motive := fun _ => AV → (AV → Bool) → Bool) (fun acc K => K acc) (fun i ih acc K => cellK c (Nat.add off i) fun v => ih (.cons v acc) K) n
theorem cellsK_sound {m : Map} {c : Body} {off : Nat} : ∀ {n : Nat} {acc : AV} {K : AV → Bool}, cellsK c off n acc K = true →
    (n = 0 ∨ off + n ≤ c.size) ∧ ∃ l, K l = true ∧ ∀ vs us, bodyRel m c vs → relL m acc us → relL m l ((vs.drop off).take n ++ us)
  | 0, acc, K, h => ⟨.inl rfl, acc, h, fun vs us _ hu => by simpa using hu⟩
  | n + 1, acc, K, h => by
    have h' : cellK c (Nat.add off n) (fun v => cellsK c off n (.cons v acc) K) = true := h
    obtain ⟨h1, v, h2, h3⟩ := cellK_sound (m := m) h'
    obtain ⟨_, l, h5, h6⟩ := cellsK_sound (m := m) h2
    have h1' : off + n < c.size := h1
    refine ⟨.inr (by omega), l, h5, fun vs us hb hu => ?_⟩
    have hlt : off + n < vs.length := by rw [hb.len]; exact h1'
    have := h6 vs (vs[off + n] :: us) hb ⟨_, us, h3 vs _ hb (List.getElem?_eq_getElem hlt), hu, rfl⟩
    have e : (vs.drop off).take (n + 1) = (vs.drop off).take n ++ [vs[off + n]] := by
      rw [List.take_add_one, List.getElem?_drop, List.getElem?_eq_getElem hlt]
      rfl
    rw [e, List.append_assoc]
    exact this
/-- A cell is written. -/
noncomputable def asByte (v : AV) (K : Nat → Bool) : Bool :=
  AV.rec (motive := fun _ => (Nat → Bool) → Bool) (fun _ => false) (fun _ _ => false)
    (fun k n K => Int.rec (motive := fun _ => IntKind → (Nat → Bool) → Bool) (fun n k K => IntKind.rec (motive := fun _ => Nat → (Nat → Bool) → Bool) (fun _ _ => false) (fun _ _ => false) (fun _ _ => false) (fun _ _ => false) (fun n K => Bool.rec (motive := fun _ => Bool) false (K n) (Nat.blt n 256)) (fun _ _ => false) (fun _ _ => false) (fun _ _ => false) k n K) (fun _ _ _ => false) n k K)
    (fun _ _ _ => false) (fun _ => false) (fun _ _ _ => false) (fun _ => false) (fun _ => false) (fun _ _ _ _ _ => false) (fun _ _ _ _ _ => false) (fun _ => false) (fun _ _ => false) (fun _ _ _ _ => false) (fun _ => false) (fun _ => false) (fun _ _ _ _ => false) (fun _ => false) (fun _ _ _ _ _ => false) (fun _ _ _ => false) (fun _ _ _ => false) v K
theorem asByte_sound {v : AV} {K : Nat → Bool} (h : asByte v K = true) : ∃ n, v = .i .u8 (Int.ofNat n) ∧ n < 256 ∧ K n = true := by
  cases v with
  | i k n =>
    cases n with
    | ofNat n => cases k <;> first | (cases h; done) | (obtain ⟨h1, h2⟩ := rec_false h; exact ⟨n, rfl, blt_lt h1, h2⟩)
    | negSucc n => cases h
  | _ => cases h
noncomputable def okC (v : AV) : Bool := AV.rec (motive := fun _ => Bool) false (fun _ => true) (fun _ _ => true) (fun _ _ => true) true (fun _ _ => true) true true (fun _ _ _ _ => true) (fun _ _ _ _ => true) true (fun _ => true) (fun _ _ _ => true) true true (fun _ _ _ => true) false (fun _ _ _ _ => false) (fun _ _ => false) (fun _ _ => false) v
theorem okC_sound {m : Map} {v : AV} {u : Value} (h : okC v = true) (hr : rel m v u) : u.oneCell' = true := by
  cases v with
  | b x => rw [show u = _ from hr]; rfl
  | i k n => rw [show u = _ from hr]; rfl
  | s l n => rw [show u = _ from hr]; rfl
  | pn => rw [show u = _ from hr]; rfl
  | sn => rw [show u = _ from hr]; rfl
  | mn => rw [show u = _ from hr]; rfl
  | fnil => rw [show u = _ from hr]; rfl
  | inil => rw [show u = _ from hr]; rfl
  | p id off => obtain ⟨_, _, _, r⟩ := hr; rw [r]; rfl
  | se => obtain ⟨_, _, r⟩ := hr; rw [r]; rfl
  | sl id off n c => obtain ⟨_, _, _, r, _⟩ := hr; rw [r]; rfl
  | sv id off n k => obtain ⟨_, _, _, _, r⟩ := hr; rw [r]; rfl
  | m id => obtain ⟨_, _, _, r⟩ := hr; rw [r]; rfl
  | fn f c => obtain ⟨_, g, _, _, r⟩ := hr; rw [r]; cases g <;> rfl
  | ifc t v => obtain ⟨_, _, r⟩ := hr; rw [r]; rfl
  | _ => cases h
noncomputable def putK (c : Body) (i : Nat) (v : AV) (K : Body → Bool) : Bool :=
  Body.rec (motive := fun _ => Nat → AV → (Body → Bool) → Bool)
    (fun len n i v K => Bool.rec (motive := fun _ => Bool) false (asByte v fun b => natK (splice n i 1 b) fun n => K (.bs len n)) (Nat.blt i len))
    (fun _ _ _ _ _ _ => false)
    (fun size t i v K => Bool.rec (motive := fun _ => Bool) false (Bool.rec (motive := fun _ => Bool) false (setK (some v) t (Nat.succ i) fun t => K (.tr size t)) (Nat.blt i size)) (okC v)) c i v K
theorem putK_sound {m : Map} {c : Body} {i : Nat} {v : AV} {K : Body → Bool} (h : putK c i v K = true) : i < c.size ∧ ∃ c', K c' = true ∧ c'.size = c.size ∧ ∀ vs u, bodyRel m c vs → rel m v u → u.oneCell' = true ∧ bodyRel m c' (vs.set i u) := by
  cases c with
  | bs len n =>
    obtain ⟨h1, h2⟩ := rec_false h
    obtain ⟨b, rfl, hb, h3⟩ := asByte_sound h2
    rw [natK_eq] at h3
    refine ⟨blt_lt h1, _, h3, rfl, ?_⟩
    rintro vs u rfl rfl
    refine ⟨rfl, ?_⟩
    show _ = (bytesOf len (splice n i 1 b)).map u8V
    rw [splice_eq len n i 1 b (blt_lt h1), List.set_eq_take_append_cons_drop]
    have hlt : i < ((bytesOf len n).map u8V).length := by simp [bytesOf_length]; exact blt_lt h1
    rw [if_pos hlt]
    simp only [bytesOf, List.map_append, List.map_take, List.map_drop, List.map_cons, List.map_nil, List.append_assoc, List.cons_append, List.nil_append]
    congr 2
    simp only [u8V, UInt8.toNat_ofNat']
    congr 1
    show (b : Int) = ((b % 2 ^ 8 : Nat) : Int)
    rw [Nat.mod_eq_of_lt (by omega)]
  | bu len k n => cases h
  | tr size t =>
    obtain ⟨h0, h2⟩ := rec_false h
    obtain ⟨h1, h2⟩ := rec_false h2
    rw [setK_eq] at h2
    refine ⟨blt_lt h1, _, h2, rfl, fun vs u hb hv => ⟨okC_sound h0 hv, by rw [List.length_set]; exact hb.1, fun j hj => ?_, fun j x y hx hy => ?_⟩⟩
    · rw [Tr.get_set _ _ _ _ (by omega) (by omega), if_neg (by have := blt_lt h1; omega)]
      exact hb.2.1 j hj
    rw [Tr.get_set _ _ _ _ (by omega) (by omega)] at hx
    rw [List.getElem?_set] at hy
    by_cases hij : i = j
    · subst hij
      rw [if_pos rfl] at hx
      rw [if_pos rfl] at hy
      simp only [Option.some.injEq] at hx
      subst hx
      split at hy
      · simp only [Option.some.injEq] at hy; subst hy; exact hv
      · cases hy
    · rw [if_neg (by simp; omega)] at hx
      rw [if_neg hij] at hy
      exact hb.2.2 j x y hx hy
/-- Cells are written one behind the other. -/
noncomputable def putsK (l : AV) : Body → Nat → (Body → Bool) → Bool :=
  AV.rec (motive := fun _ => Body → Nat → (Body → Bool) → Bool) (fun _ _ _ => false) (fun _ _ _ _ => false) (fun _ _ _ _ _ => false) (fun _ _ _ _ _ => false) (fun _ _ _ => false) (fun _ _ _ _ _ => false) (fun _ _ _ => false) (fun _ _ _ => false) (fun _ _ _ _ _ _ _ => false) (fun _ _ _ _ _ _ _ => false) (fun _ _ _ => false) (fun _ _ _ _ => false) (fun _ _ _ _ _ _ => false) (fun _ _ _ => false) (fun _ _ _ => false) (fun _ _ _ _ _ _ => false)
    (fun c _ K => K c) (fun v _ _ ih c i K => putK c i v fun c => natK (Nat.succ i) fun i => ih c i K) (fun _ _ _ _ _ => false) (fun _ _ _ _ _ => false) l
theorem putsK_sound {m : Map} : ∀ {l : AV} {c : Body} {i : Nat} {K : Body → Bool}, putsK l c i K = true → ∃ c', K c' = true ∧ c'.size = c.size ∧ ∀ vs us, bodyRel m c vs → relL m l us → i + us.length ≤ max i c.size ∧ (∀ u ∈ us, u.oneCell' = true) ∧ bodyRel m c' (lay vs i us) := by
  intro l
  induction l with
  | nil => intro c i K h; exact ⟨c, h, rfl, fun vs us hb hu => by cases hu; exact ⟨by simp; omega, by simp, hb⟩⟩
  | cons v l _ ih =>
    intro c i K h
    have h' : putK c i v (fun c => natK (Nat.succ i) fun i => putsK l c i K) = true := h
    obtain ⟨h1, c1, h2, h3, h4⟩ := putK_sound (m := m) h'
    rw [natK_eq] at h2
    obtain ⟨c2, h5, h6, h7⟩ := ih h2
    refine ⟨c2, h5, h6.trans h3, fun vs us hb hu => ?_⟩
    obtain ⟨u, us, hu1, hu2, rfl⟩ := hu
    have h9 := h4 vs u hb hu1
    have := h7 (vs.set i u) us h9.2 hu2
    refine ⟨?_, ?_, this.2.2⟩
    rotate_left
    · intro x hx
      rcases List.mem_cons.1 hx with rfl | hx
      · exact h9.1
      · exact this.2.1 x hx
    have h8 := this.1
    rw [h3] at h8
    simp only [List.length_cons]
    omega
  | _ => intro c i K h; cases h
end Go.Evl
