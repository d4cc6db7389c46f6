/-
  Values, rows and memories of a small evaluator, and what they stand for. It proves nothing of the program by itself.
-/
import Derived.Test.YtokbjejbgbdkoaaGreatGSl13
set_option linter.unusedVariables false
set_option linter.unusedSimpArgs false
namespace Go.Evl
open Go Go.Sl

/-! ### Bytes as one number -/
def bytesOf : Nat → Nat → List UInt8
  | 0, _ => []
  | l + 1, n => UInt8.ofNat n :: bytesOf l (n / 256)
theorem bytesOf_length : ∀ (l n : Nat), (bytesOf l n).length = l
  | 0, _ => rfl
  | l + 1, n => by simp [bytesOf, bytesOf_length l]
theorem bytesOf_get : ∀ (l n i : Nat), i < l → (bytesOf l n)[i]? = some (UInt8.ofNat (n / 256 ^ i))
  | 0, _, _, h => by omega
  | l + 1, n, 0, _ => by simp [bytesOf]
  | l + 1, n, i + 1, h => by
    simp only [bytesOf, List.getElem?_cons_succ]
    rw [bytesOf_get l (n / 256) i (by omega), Nat.div_div_eq_div_mul, Nat.pow_succ, Nat.mul_comm]
theorem bytesOf_drop : ∀ (i l n : Nat), (bytesOf l n).drop i = bytesOf (l - i) (n / 256 ^ i)
  | 0, l, n => by simp
  | i + 1, 0, n => by simp [bytesOf]
  | i + 1, l + 1, n => by
    simp only [bytesOf, List.drop_succ_cons]
    rw [bytesOf_drop i l (n / 256), Nat.div_div_eq_div_mul, Nat.pow_succ, Nat.mul_comm, Nat.add_sub_add_right]
theorem bytesOf_take : ∀ (i l n : Nat), i ≤ l → (bytesOf l n).take i = bytesOf i n
  | 0, l, n, _ => by simp [bytesOf]
  | i + 1, 0, n, h => by omega
  | i + 1, l + 1, n, h => by
    simp only [bytesOf, List.take_succ_cons]
    rw [bytesOf_take i l (n / 256) (by omega)]
theorem ofNat_mod (n : Nat) : UInt8.ofNat (n % 256) = UInt8.ofNat n := by
  apply UInt8.toNat.inj
  simp [UInt8.toNat_ofNat']
theorem bytesOf_mod : ∀ (l n : Nat), bytesOf l (n % 256 ^ l) = bytesOf l n
  | 0, _ => rfl
  | l + 1, n => by
    simp only [bytesOf]
    have h1 : n % 256 ^ (l + 1) % 256 = n % 256 := Nat.mod_mod_of_dvd n ⟨256 ^ l, by rw [Nat.pow_succ, Nat.mul_comm]⟩
    have h2 : n % 256 ^ (l + 1) / 256 = n / 256 % 256 ^ l := by
      rw [Nat.pow_succ, Nat.mul_comm, Nat.mod_mul_right_div_self]
    rw [← ofNat_mod (n % 256 ^ (l + 1)), h1, ofNat_mod, h2, bytesOf_mod l]
theorem bytesOf_append : ∀ (a b x y : Nat), bytesOf a x ++ bytesOf b y = bytesOf (a + b) (x % 256 ^ a + 256 ^ a * y)
  | 0, b, x, y => by simp [bytesOf, Nat.mod_one]
  | a + 1, b, x, y => by
    rw [show a + 1 + b = (a + b) + 1 from by omega]
    simp only [bytesOf, List.cons_append]
    have e1 : (x % 256 ^ (a + 1) + 256 ^ (a + 1) * y) % 256 = x % 256 := by
      rw [Nat.pow_succ, Nat.mul_comm (256 ^ a) 256, Nat.mul_assoc, Nat.add_mul_mod_self_left, Nat.mod_mul_right_mod]
    have e2 : (x % 256 ^ (a + 1) + 256 ^ (a + 1) * y) / 256 = x / 256 % 256 ^ a + 256 ^ a * y := by
      rw [Nat.pow_succ, Nat.mul_comm (256 ^ a) 256, Nat.mul_assoc, Nat.add_mul_div_left _ _ (by decide), Nat.mod_mul_right_div_self]
    rw [← ofNat_mod x, ← ofNat_mod (x % 256 ^ (a + 1) + 256 ^ (a + 1) * y), e1, e2, bytesOf_append a b]
theorem bytesOf_inj : ∀ (l x y : Nat), bytesOf l x = bytesOf l y ↔ x % 256 ^ l = y % 256 ^ l
  | 0, x, y => by simp [bytesOf, Nat.mod_one]
  | l + 1, x, y => by
    simp only [bytesOf, List.cons.injEq, bytesOf_inj l]
    have hx : ∀ x : Nat, x % 256 ^ (l + 1) = x % 256 + 256 * (x / 256 % 256 ^ l) := fun x => by
      rw [Nat.pow_succ, Nat.mul_comm (256 ^ l) 256, Nat.mod_mul]
    rw [hx x, hx y]
    constructor
    · rintro ⟨h1, h2⟩
      have h3 : x % 256 = y % 256 := by
        have := congrArg UInt8.toNat h1
        simpa [UInt8.toNat_ofNat'] using this
      rw [h2, h3]
    · intro h
      have hx2 := Nat.mod_lt x (show 256 > 0 by decide)
      have hy2 := Nat.mod_lt y (show 256 > 0 by decide)
      refine ⟨?_, by omega⟩
      have h3 : x % 256 = y % 256 := by omega
      rw [← ofNat_mod x, ← ofNat_mod y, h3]
/-- The bytes of a text as one number. -/
def numOf : List UInt8 → Nat
  | [] => 0
  | b :: l => b.toNat + 256 * numOf l
theorem bytesOf_numOf : ∀ (l : List UInt8), bytesOf l.length (numOf l) = l
  | [] => rfl
  | b :: l => by
    simp only [List.length_cons, bytesOf, numOf]
    have hb : b.toNat < 256 := UInt8.toNat_lt b
    rw [← ofNat_mod (b.toNat + 256 * numOf l), show (b.toNat + 256 * numOf l) % 256 = b.toNat from by omega, show (b.toNat + 256 * numOf l) / 256 = numOf l from by omega, bytesOf_numOf l]
    simp
/-- m bytes of y laid at off over x. -/
def splice (x off m y : Nat) : Nat := Nat.add (Nat.mod x (Nat.pow 256 off)) (Nat.mul (Nat.pow 256 off) (Nat.add (Nat.mod y (Nat.pow 256 m)) (Nat.mul (Nat.pow 256 m) (Nat.div x (Nat.pow 256 (Nat.add off m))))))
theorem splice_eq (l x off m y : Nat) (h : off + m ≤ l) : bytesOf l (splice x off m y) = (bytesOf l x).take off ++ bytesOf m y ++ (bytesOf l x).drop (off + m) := by
  rw [bytesOf_take off l x (by omega), bytesOf_drop, List.append_assoc, bytesOf_append m, bytesOf_append off]
  rw [show off + (m + (l - (off + m))) = l from by omega]
  rfl

/-! ### Abstract values -/
inductive AV where
  | bad
  | b (x : Bool)
  | i (k : IntKind) (n : Int)
  | s (len n : Nat)
  | pn
  | p (id off : Nat)
  | sn
  | se
  | sl (id off len cap : Nat)
  | sv (id off len k : Nat)
  | mn
  | m (id : Nat)
  | fn (f : Fn) (caps : AV)
  | fnil
  | inil
  | ifc (t : Nat) (v : AV)
  | nil
  | cons (h t : AV)
  | agg (l : AV)
  | tup (l : AV)
/-- Temporaries. -/
inductive En where
  | nil
  | cons (t : Nat) (v : AV) (r : En)
noncomputable def keepB (mask t : Nat) : Bool := Nat.beq (Nat.mod (Nat.shiftRight mask t) 2) 1
/-- Where the numbered blocks lie; a grown row's capacity. -/
abbrev Map := Nat → Option (Nat × Nat)
def Map.le (m m' : Map) : Prop := ∀ i x, m i = some x → m' i = some x
theorem Map.le_refl (m : Map) : Map.le m m := fun _ _ h => h
theorem Map.le_trans {a b c : Map} (h : Map.le a b) (k : Map.le b c) : Map.le a c := fun i x e => k i x (h i x e)
/-- Functions; a loop's yield by the loop's number. -/
def fnRel (m : Map) : Fn → Fn → Prop
  | .yield i, g => ∃ b c, m i = some (b, c) ∧ g = .yield b
  | f, g => g = f
theorem fnRel.mono {m m' : Map} (hm : Map.le m m') {f g : Fn} (h : fnRel m f g) : fnRel m' f g := by
  cases f with
  | yield i => obtain ⟨b, c, h1, h2⟩ := h; exact ⟨b, c, hm _ _ h1, h2⟩
  | _ => exact h
/-- A function value: a method value holds its receiver ahead. -/
def mkFn (g : Fn) (vs : List Value) : Value := match g with
  | .method _ => .func g vs.toArray #[]
  | _ => .func g #[] vs.toArray
theorem mkFn_eq (g : Fn) (vs : List Value) : ∃ x y, mkFn g vs = .func g x y := by cases g <;> exact ⟨_, _, rfl⟩
mutual
def rel (m : Map) : AV → Value → Prop
  | .bad, _ => True
  | .b x, u => u = .bool x
  | .i k n, u => u = .int k n
  | .s l n, u => u = strV (bytesOf l n)
  | .pn, u => u = .pointer none
  | .p id off, u => ∃ b c, m id = some (b, c) ∧ u = ptr b off
  | .sn, u => u = .slice none 0 0
  | .se, u => ∃ a c, u = .slice a 0 c
  | .sl id off n cap, u => ∃ b c, m id = some (b, c) ∧ u = slc b off n cap ∧ n ≤ cap
  | .sv id off n k, u => ∃ b c, m id = some (b, c) ∧ n + k ≤ c ∧ u = slc b off n (c - k)
  | .mn, u => u = .map none
  | .m id, u => ∃ b c, m id = some (b, c) ∧ u = .map (some b)
  | .fn f caps, u => ∃ vs g, relL m caps vs ∧ fnRel m f g ∧ u = mkFn g vs
  | .fnil, u => u = .nilFunc
  | .inil, u => u = .nilIface
  | .ifc t v, u => ∃ x, rel m v x ∧ u = .iface t x
  | .nil, _ => False
  | .cons _ _, _ => False
  | .agg l, u => ∃ vs, relL m l vs ∧ u = .agg vs.toArray
  | .tup l, u => ∃ vs, relL m l vs ∧ u = .tuple vs.toArray
def relL (m : Map) : AV → List Value → Prop
  | .nil, vs => vs = []
  | .cons h t, vs => ∃ u us, rel m h u ∧ relL m t us ∧ vs = u :: us
  | _, _ => False
end
theorem rel_mono {m m' : Map} (hm : Map.le m m') : ∀ (v : AV), (∀ u, rel m v u → rel m' v u) ∧ (∀ us, relL m v us → relL m' v us) := by
  intro v
  induction v with
  | p id off => exact ⟨fun u ⟨b, c, h1, h2⟩ => ⟨b, c, hm _ _ h1, h2⟩, fun _ h => h⟩
  | sl id off n cap => exact ⟨fun u ⟨b, c, h1, h2⟩ => ⟨b, c, hm _ _ h1, h2⟩, fun _ h => h⟩
  | sv id off n k => exact ⟨fun u ⟨b, c, h1, h2⟩ => ⟨b, c, hm _ _ h1, h2⟩, fun _ h => h⟩
  | m id => exact ⟨fun u ⟨b, c, h1, h2⟩ => ⟨b, c, hm _ _ h1, h2⟩, fun _ h => h⟩
  | fn f caps ih => exact ⟨fun u ⟨vs, g, h1, h2, h3⟩ => ⟨vs, g, ih.2 _ h1, h2.mono hm, h3⟩, fun _ h => h⟩
  | ifc t v ih => exact ⟨fun u ⟨x, h1, h2⟩ => ⟨x, ih.1 _ h1, h2⟩, fun _ h => h⟩
  | agg l ih => exact ⟨fun u ⟨vs, h1, h2⟩ => ⟨vs, ih.2 _ h1, h2⟩, fun _ h => h⟩
  | tup l ih => exact ⟨fun u ⟨vs, h1, h2⟩ => ⟨vs, ih.2 _ h1, h2⟩, fun _ h => h⟩
  | cons a l iha ihl => exact ⟨fun u h => h, fun us ⟨x, xs, h1, h2, h3⟩ => ⟨x, xs, iha.1 _ h1, ihl.2 _ h2, h3⟩⟩
  | _ => exact ⟨fun u h => h, fun _ h => h⟩
theorem rel.mono {m m' : Map} (hm : Map.le m m') {v : AV} {u : Value} (h : rel m v u) : rel m' v u := (rel_mono hm v).1 u h
theorem relL.mono {m m' : Map} (hm : Map.le m m') {v : AV} {u : List Value} (h : relL m v u) : relL m' v u := (rel_mono hm v).2 u h

/-! ### Trees by number -/
inductive Tr (α : Type) where
  | nil
  | nd (l : Tr α) (o : Option α) (r : Tr α)
variable {α : Type}
noncomputable def Tr.get (t : Tr α) : Nat → Option α :=
  Tr.rec (motive := fun _ => Nat → Option α) (fun _ => none)
    (fun _ o _ ihl ihr k => Bool.rec (motive := fun _ => Option α) (Nat.rec (motive := fun _ => Option α) (ihl (Nat.div k 2)) (fun _ _ => ihr (Nat.div k 2)) (Nat.mod k 2)) o (Nat.ble k 1)) t
theorem Tr.get_nil (k : Nat) : (Tr.nil : Tr α).get k = none := rfl
theorem rec_bit {β : Type} (k : Nat) (x y : β) : Nat.rec (motive := fun _ => β) x (fun _ _ => y) (Nat.mod k 2) = if k % 2 = 0 then x else y := by
  show Nat.rec (motive := fun _ => β) x (fun _ _ => y) (k % 2) = _
  rcases Nat.mod_two_eq_zero_or_one k with h | h <;> rw [h] <;> rfl
theorem Tr.get_nd (l : Tr α) (o : Option α) (r : Tr α) (k : Nat) : (Tr.nd l o r).get k = if k ≤ 1 then o else if k % 2 = 0 then l.get (k / 2) else r.get (k / 2) := by
  show Bool.rec (motive := fun _ => Option α) (Nat.rec (motive := fun _ => Option α) (l.get (Nat.div k 2)) (fun _ _ => r.get (Nat.div k 2)) (Nat.mod k 2)) o (Nat.ble k 1) = _
  rw [rec_bit]
  by_cases h : k ≤ 1
  · rw [if_pos h, Nat.ble_eq_true_of_le h]
  · rw [if_neg h, show Nat.ble k 1 = false from by cases hb : Nat.ble k 1 with | false => rfl | true => exact absurd (Nat.le_of_ble_eq_true hb) h]
    rfl
/-- The tree with another value (or none) at k. -/
def Tr.sing (v : Option α) : Nat → Nat → Tr α
  | 0, _ => .nil
  | d + 1, k => if k ≤ 1 then .nd .nil v .nil else if k % 2 = 0 then .nd (Tr.sing v d (k / 2)) none .nil else .nd .nil none (Tr.sing v d (k / 2))
def Tr.set (v : Option α) : Tr α → Nat → Tr α
  | .nil, k => Tr.sing v k k
  | .nd l o r, k => if k ≤ 1 then .nd l v r else if k % 2 = 0 then .nd (Tr.set v l (k / 2)) o r else .nd l o (Tr.set v r (k / 2))
def Tr.entries : Tr α → (Nat → Nat) → List (Nat × α)
  | .nil, _ => []
  | .nd l o r, f => (match o with | some v => [(f 1, v)] | none => []) ++ (l.entries (fun j => f (2 * j)) ++ r.entries (fun j => f (2 * j + 1)))
theorem Tr.entries_sing (v : α) : ∀ (d k : Nat) (f : Nat → Nat), 1 ≤ k → k ≤ d → (Tr.sing (some v) d k).entries f = [(f k, v)]
  | 0, k, f, h1, h2 => by omega
  | d + 1, k, f, h1, h2 => by
    unfold Tr.sing
    by_cases h : k ≤ 1
    · obtain rfl : k = 1 := by omega
      simp [Tr.entries]
    · rw [if_neg h]
      have e := Nat.div_add_mod k 2
      by_cases hm : k % 2 = 0
      · rw [if_pos hm]
        simp only [Tr.entries, List.nil_append, List.append_nil]
        rw [Tr.entries_sing v d (k / 2) _ (by omega) (by omega), show 2 * (k / 2) = k from by omega]
      · rw [if_neg hm]
        simp only [Tr.entries, List.nil_append]
        rw [Tr.entries_sing v d (k / 2) _ (by omega) (by omega), show 2 * (k / 2) + 1 = k from by omega]
theorem Tr.entries_sing_none : ∀ (d k : Nat) (f : Nat → Nat), (Tr.sing (none : Option α) d k).entries f = []
  | 0, k, f => rfl
  | d + 1, k, f => by
    unfold Tr.sing
    split
    · simp [Tr.entries]
    · split <;> simp [Tr.entries, Tr.entries_sing_none d]
def eopt (k : Nat) : Option α → List (Nat × α)
  | some v => [(k, v)]
  | none => []
/-- One key seen alone: what else there is stays. -/
theorem Tr.lens : ∀ (t : Tr α) (k : Nat) (f : Nat → Nat), 1 ≤ k → ∃ R, (t.entries f).Perm (eopt (f k) (t.get k) ++ R) ∧ ∀ v, ((Tr.set v t k).entries f).Perm (eopt (f k) v ++ R)
  | .nil, k, f, h1 => ⟨[], by simp [Tr.get_nil, Tr.entries, eopt], fun v => by
      cases v with
      | none => simp [Tr.set, Tr.entries_sing_none, eopt]
      | some v => simp [Tr.set, Tr.entries_sing v k k f h1 (Nat.le_refl _), eopt]⟩
  | .nd l o r, k, f, h1 => by
    rw [Tr.get_nd]
    unfold Tr.set
    by_cases h : k ≤ 1
    · obtain rfl : k = 1 := by omega
      simp only [Nat.le_refl, if_true]
      refine ⟨l.entries (fun j => f (2 * j)) ++ r.entries (fun j => f (2 * j + 1)), ?_, fun v => ?_⟩
      · cases o <;> exact List.Perm.refl _
      · cases v <;> exact List.Perm.refl _
    · simp only [h, if_false]
      have e := Nat.div_add_mod k 2
      by_cases hm : k % 2 = 0
      · simp only [hm, if_true]
        obtain ⟨R, h2, h3⟩ := Tr.lens l (k / 2) (fun j => f (2 * j)) (by omega)
        simp only [show 2 * (k / 2) = k from by omega] at h2 h3
        refine ⟨eopt (f 1) o ++ (R ++ r.entries (fun j => f (2 * j + 1))), ?_, fun v => ?_⟩
        · have e1 : (Tr.nd l o r).entries f = eopt (f 1) o ++ (l.entries (fun j => f (2 * j)) ++ r.entries (fun j => f (2 * j + 1))) := by cases o <;> rfl
          rw [e1]
          refine ((List.Perm.refl _).append (h2.append (List.Perm.refl _))).trans ?_
          rw [← List.append_assoc, ← List.append_assoc, ← List.append_assoc, ← List.append_assoc]
          exact ((List.perm_append_comm).append (List.Perm.refl _)).append (List.Perm.refl _)
        · have e1 : (Tr.nd (Tr.set v l (k / 2)) o r).entries f = eopt (f 1) o ++ ((Tr.set v l (k / 2)).entries (fun j => f (2 * j)) ++ r.entries (fun j => f (2 * j + 1))) := by cases o <;> rfl
          rw [e1]
          refine ((List.Perm.refl _).append ((h3 v).append (List.Perm.refl _))).trans ?_
          rw [← List.append_assoc, ← List.append_assoc, ← List.append_assoc, ← List.append_assoc]
          exact ((List.perm_append_comm).append (List.Perm.refl _)).append (List.Perm.refl _)
      · simp only [hm, if_false]
        obtain ⟨R, h2, h3⟩ := Tr.lens r (k / 2) (fun j => f (2 * j + 1)) (by omega)
        simp only [show 2 * (k / 2) + 1 = k from by omega] at h2 h3
        refine ⟨eopt (f 1) o ++ (l.entries (fun j => f (2 * j)) ++ R), ?_, fun v => ?_⟩
        · have e1 : (Tr.nd l o r).entries f = eopt (f 1) o ++ (l.entries (fun j => f (2 * j)) ++ r.entries (fun j => f (2 * j + 1))) := by cases o <;> rfl
          rw [e1]
          refine ((List.Perm.refl _).append ((List.Perm.refl _).append h2)).trans ?_
          rw [← List.append_assoc, ← List.append_assoc, ← List.append_assoc, ← List.append_assoc]
          exact (List.perm_append_comm.trans (by rw [List.append_assoc])).append (List.Perm.refl _)
        · have e1 : (Tr.nd l o (Tr.set v r (k / 2))).entries f = eopt (f 1) o ++ (l.entries (fun j => f (2 * j)) ++ (Tr.set v r (k / 2)).entries (fun j => f (2 * j + 1))) := by cases o <;> rfl
          rw [e1]
          refine ((List.Perm.refl _).append ((List.Perm.refl _).append (h3 v))).trans ?_
          rw [← List.append_assoc, ← List.append_assoc, ← List.append_assoc, ← List.append_assoc]
          exact (List.perm_append_comm.trans (by rw [List.append_assoc])).append (List.Perm.refl _)
theorem Tr.get_sing (v : Option α) : ∀ (d k j : Nat), 1 ≤ k → k ≤ d → 1 ≤ j → (Tr.sing v d k).get j = if j = k then v else none
  | 0, k, j, h1, h2, _ => by omega
  | d + 1, k, j, h1, h2, h3 => by
    unfold Tr.sing
    have e := Nat.div_add_mod k 2
    have e' := Nat.div_add_mod j 2
    by_cases h : k ≤ 1
    · obtain rfl : k = 1 := by omega
      rw [if_pos h, Tr.get_nd]
      by_cases hj : j ≤ 1
      · rw [if_pos hj, if_pos (by omega)]
      · rw [if_neg hj, if_neg (show ¬ j = 1 by omega)]
        split <;> rfl
    · rw [if_neg h]
      by_cases hm : k % 2 = 0
      · rw [if_pos hm, Tr.get_nd]
        by_cases hj : j ≤ 1
        · rw [if_pos hj, if_neg (by omega)]
        · rw [if_neg hj]
          by_cases hj2 : j % 2 = 0
          · rw [if_pos hj2, Tr.get_sing v d _ _ (by omega) (by omega) (by omega)]
            by_cases hk : j = k
            · rw [if_pos hk, if_pos (by rw [hk])]
            · rw [if_neg hk, if_neg (by omega)]
          · rw [if_neg hj2, if_neg (by intro g; rw [g] at hj2; exact hj2 hm), Tr.get_nil]
      · rw [if_neg hm, Tr.get_nd]
        by_cases hj : j ≤ 1
        · rw [if_pos hj, if_neg (by omega)]
        · rw [if_neg hj]
          by_cases hj2 : j % 2 = 0
          · rw [if_pos hj2, if_neg (by intro g; rw [g] at hj2; exact hm hj2), Tr.get_nil]
          · rw [if_neg hj2, Tr.get_sing v d _ _ (by omega) (by omega) (by omega)]
            by_cases hk : j = k
            · rw [if_pos hk, if_pos (by rw [hk])]
            · rw [if_neg hk, if_neg (by omega)]
theorem Tr.get_set (v : Option α) : ∀ (t : Tr α) (k j : Nat), 1 ≤ k → 1 ≤ j → (Tr.set v t k).get j = if j = k then v else t.get j
  | .nil, k, j, h1, h2 => by rw [Tr.set, Tr.get_sing v k k j h1 (Nat.le_refl _) h2]; rfl
  | .nd l o r, k, j, h1, h2 => by
    unfold Tr.set
    have e := Nat.div_add_mod k 2
    have e' := Nat.div_add_mod j 2
    by_cases h : k ≤ 1
    · obtain rfl : k = 1 := by omega
      rw [if_pos h, Tr.get_nd, Tr.get_nd]
      by_cases hj : j ≤ 1
      · rw [if_pos hj, if_pos (by omega)]
      · rw [if_neg hj, if_neg (show ¬ j = 1 by omega), if_neg hj]
    · rw [if_neg h]
      by_cases hm : k % 2 = 0
      · rw [if_pos hm, Tr.get_nd, Tr.get_nd]
        by_cases hj : j ≤ 1
        · rw [if_pos hj, if_pos hj, if_neg (by omega)]
        · rw [if_neg hj, if_neg hj]
          by_cases hj2 : j % 2 = 0
          · rw [if_pos hj2, if_pos hj2, Tr.get_set v l _ _ (by omega) (by omega)]
            by_cases hk : j = k
            · rw [if_pos hk, if_pos (by rw [hk])]
            · rw [if_neg hk, if_neg (by omega)]
          · rw [if_neg hj2, if_neg hj2, if_neg (by intro g; rw [g] at hj2; exact hj2 hm)]
      · rw [if_neg hm, Tr.get_nd, Tr.get_nd]
        by_cases hj : j ≤ 1
        · rw [if_pos hj, if_pos hj, if_neg (by omega)]
        · rw [if_neg hj, if_neg hj]
          by_cases hj2 : j % 2 = 0
          · rw [if_pos hj2, if_pos hj2, if_neg (by intro g; rw [g] at hj2; exact hm hj2)]
          · rw [if_neg hj2, if_neg hj2, Tr.get_set v r _ _ (by omega) (by omega)]
            by_cases hk : j = k
            · rw [if_pos hk, if_pos (by rw [hk])]
            · rw [if_neg hk, if_neg (by omega)]

/-! For the kernel: the same with what goes on behind it -/
/-- A number, as a number that is written out. -/
noncomputable def natK (n : Nat) (K : Nat → Bool) : Bool := Nat.rec (motive := fun _ => (Nat → Bool) → Bool) (fun K => K 0) (fun m _ K => K (Nat.succ m)) n K
theorem natK_eq (n : Nat) (K : Nat → Bool) : natK n K = K n := by cases n <;> rfl
noncomputable def intK (n : Int) (K : Int → Bool) : Bool := Int.rec (motive := fun _ => (Int → Bool) → Bool) (fun m K => natK m fun m => K (Int.ofNat m)) (fun m K => natK m fun m => K (Int.negSucc m)) n K
theorem intK_eq (n : Int) (K : Int → Bool) : intK n K = K n := by
  cases n with
  | ofNat m => show natK m _ = _; rw [natK_eq]
  | negSucc m => show natK m _ = _; rw [natK_eq]
noncomputable def singK (v : Option α) (d : Nat) : Nat → (Tr α → Bool) → Bool :=
  Nat.rec (motive := fun _ => Nat → (Tr α → Bool) → Bool) (fun _ K => K .nil)
    (fun _ ih k K => Bool.rec (motive := fun _ => Bool)
      (Nat.rec (motive := fun _ => Bool) (ih (Nat.div k 2) fun l => K (.nd l none .nil)) (fun _ _ => ih (Nat.div k 2) fun r => K (.nd .nil none r)) (Nat.mod k 2)) (K (.nd .nil v .nil)) (Nat.ble k 1)) d
theorem rec_ble {β : Type} (k n : Nat) (x y : β) : Bool.rec (motive := fun _ => β) x y (Nat.ble k n) = if k ≤ n then y else x := by
  by_cases h : k ≤ n
  · rw [if_pos h, Nat.ble_eq_true_of_le h]
  · rw [if_neg h, show Nat.ble k n = false from by cases hb : Nat.ble k n with | false => rfl | true => exact absurd (Nat.le_of_ble_eq_true hb) h]
theorem singK_eq (v : Option α) : ∀ (d k : Nat) (K : Tr α → Bool), singK v d k K = K (Tr.sing v d k)
  | 0, _, _ => rfl
  | d + 1, k, K => by
    show Bool.rec (motive := fun _ => Bool) (Nat.rec (motive := fun _ => Bool) (singK v d (Nat.div k 2) fun l => K (.nd l none .nil)) (fun _ _ => singK v d (Nat.div k 2) fun r => K (.nd .nil none r)) (Nat.mod k 2)) (K (.nd .nil v .nil)) (Nat.ble k 1) = _
    rw [rec_ble, rec_bit, singK_eq v d, singK_eq v d, Tr.sing]
    split
    · rfl
    · split <;> rfl
noncomputable def setK (v : Option α) (t : Tr α) : Nat → (Tr α → Bool) → Bool :=
  Tr.rec (motive := fun _ => Nat → (Tr α → Bool) → Bool) (fun k K => singK v k k K)
    (fun l o r ihl ihr k K => Bool.rec (motive := fun _ => Bool)
      (Nat.rec (motive := fun _ => Bool) (ihl (Nat.div k 2) fun l => K (.nd l o r)) (fun _ _ => ihr (Nat.div k 2) fun r => K (.nd l o r)) (Nat.mod k 2)) (K (.nd l v r)) (Nat.ble k 1)) t
theorem setK_eq (v : Option α) : ∀ (t : Tr α) (k : Nat) (K : Tr α → Bool), setK v t k K = K (Tr.set v t k)
  | .nil, k, K => singK_eq v k k K
  | .nd l o r, k, K => by
    show Bool.rec (motive := fun _ => Bool) (Nat.rec (motive := fun _ => Bool) (setK v l (Nat.div k 2) fun l => K (.nd l o r)) (fun _ _ => setK v r (Nat.div k 2) fun r => K (.nd l o r)) (Nat.mod k 2)) (K (.nd l v r)) (Nat.ble k 1) = _
    rw [rec_ble, rec_bit, setK_eq v l, setK_eq v r, Tr.set]
    split
    · rfl
    · split <;> rfl
end Go.Evl
