/-
  Calls of methods of interface values with arguments; pointers behind interfaces. It proves nothing of the program by itself.
-/
import Derived.Test.YtbbgajjonodlfaaGreatGSl12
import Derived.Test.YtbbgajjonodlfaaGreatGEv13
import Derived.Below
import Derived.Scope
import Derived.Test.YtbbgajjonodlfaaGreatGSl4
set_option linter.unusedVariables false
set_option linter.unusedSimpArgs false
namespace Go.Sl
open Go Go.Evl Go.RowKit
section
variable {P : Program} {e : Env} {o : Oper} {x : Operand}
theorem c_invokeA {t f : Nat} {v : Value} {name : String} {xs : Array Operand} {ats : Array TypeId} {vs : List Value} (hop : o.op = .call { callee := .invoke x name, args := xs, argTypes := ats }) (hr : ev e x = .iface t v) (hm : mthB P t name = some f) (ha : xs.toList.map (ev e) = vs) : CRun P e o f (v :: vs) := by
  intro hc w
  unfold execOp; rw [hop]
  simp only [resolve, hr, Sem.run_bind, Sem.run_pure, Result.andThen_ok, invoke]
  have e0 : #[Value.iface t v] ++ Array.map (ev e) xs = (Value.iface t v :: vs).toArray := by apply Array.ext'; simp [← ha]
  have e1 : ((Value.iface t v :: vs).toArray)[0]? = some (.iface t v) := rfl
  have e3 : ((Value.iface t v :: vs).toArray).extract 1 ((Value.iface t v :: vs).toArray).size = vs.toArray := by
    apply Array.ext'
    simp [List.extract_eq_take_drop]
  have hfu : ∃ k, P.types.size + Made.depth = k + 1 := ⟨P.types.size + 99, rfl⟩
  obtain ⟨k, hk⟩ := hfu
  rw [e0]
  simp only [e1, e3, callMethod, Sem.run_bind, run_program, Result.andThen_ok, hk, mthB_sound hm]
  have e4 : (#[v] ++ vs.toArray : Array Value) = (v :: vs).toArray := by apply Array.ext'; simp
  rw [e4, callable_run hc]
theorem p_makeIfaceP {t el : TypeId} {v : Value} (hop : o.op = .makeInterface t x) (ht : P.underlying t = some (.pointer el)) (hx : ev e x = v) : PRun P e o (.iface t v) := by
  intro w; unfold execOp; rw [hop]; simp only [hx]
  simp only [Instr.makeInterface, Sem.run_bind, run_underlying' ht, Result.andThen_ok]
  rfl
theorem zvA_ex {a sz bytes : Nat} {z : List Value} (h : TyInfo P a sz bytes z) : ∃ zv, ∀ w, (zeroValue a).run P w = .ok zv w := by
  obtain ⟨i, zv, h1, h2, h3, h4, h5⟩ := h
  exact ⟨zv, fun w => by simp [zeroValue, typeInfo, h1, h4]⟩
noncomputable def zvA {a sz bytes : Nat} {z : List Value} (h : TyInfo P a sz bytes z) : Value := Classical.choose (zvA_ex h)
theorem p_taOtherP {xT a t el sz bytes : TypeId} {z : List Value} {v : Value} (hop : o.op = .typeAssert x xT a true) (ht : P.underlying a = some (.pointer el)) (hz : TyInfo P a sz bytes z) (hx : ev e x = .iface t v) (hne : t ≠ a) : PRun P e o (.tuple #[zvA hz, .bool false]) := by
  intro w
  have hz2 := Classical.choose_spec (zvA_ex hz) w
  unfold execOp; rw [hop]; simp only [hx]
  simp only [Instr.typeAssert, Sem.run_bind, run_underlying' ht, Result.andThen_ok]
  simp only [hne, if_false, if_true, Sem.run_bind]
  rw [show (zeroValue a).run P w = .ok (zvA hz) w from hz2]
  rfl
end
end Go.Sl
namespace Go.Sl
open Go Go.Evl
/-- No jump leaves. -/
def Post.ng (Q : Post) : Post
  | .goto _, _, _ => False
  | x, e, H => Q x e H
theorem Post.ng_r {Q : Post} {e : Env} {H : List Assn} (h : Q .ret e H) : Post.ng Q .ret e H := h
theorem T.scope {P : Program} {N : Nat} {c : Code} {Q : Post} {e : Env} {Hs : List Assn} (h : T P N c (Post.ng Q) e Hs) : T P N (.scope c) Q e Hs := fun W0 a w ha hs => wp_scope_straight (wp_mono (h W0 a w ha hs) (by
  rintro x a' w' ⟨e', H', h1, h2, h3⟩
  cases x with
  | goto l => exact h3.elim
  | normal => exact ⟨e', H', h1, h2, h3⟩
  | ret => exact ⟨e', H', h1, h2, h3⟩
  | exit id => exact ⟨e', H', h1, h2, h3⟩
  | panic c => exact ⟨e', H', h1, h2, h3⟩
  | outgrown => exact ⟨e', H', h1, h2, h3⟩))
section
variable {P : Program} {e : Env} {o : Oper} {x y : Operand}
theorem p_shrN {t t' : TypeId} {k k' : IntKind} {a b : Nat} (hop : o.op = .binOp .shr t x y t') (hx : ev e x = .int k (a : Int)) (hy : ev e y = .int k' (b : Int)) (hb : b ≤ k.bits) : PRun P e o (.int k ((a >>> b : Nat) : Int)) := by
  have h := p_shr (P := P) hop hx hy (by omega)
  have e1 : (a : Int).fdiv (2 ^ (min (b : Int).toNat k.bits)) = ((a >>> b : Nat) : Int) := by
    rw [Int.toNat_natCast, Nat.min_eq_left hb, Nat.shiftRight_eq_div_pow, Int.natCast_ediv, Int.fdiv_eq_ediv_of_nonneg _ (Int.le_of_lt (Int.pow_pos (by decide)))]
    simp
  rwa [e1] at h
theorem p_shl32 {t t' : TypeId} {k' : IntKind} {a b : Nat} (hop : o.op = .binOp .shl t x y t') (hx : ev e x = .int .u32 (a : Int)) (hy : ev e y = .int k' (b : Int)) (hb : b ≤ 32) (h1 : a * 2 ^ b < 4294967296) : PRun P e o (.int .u32 ((a * 2 ^ b : Nat) : Int)) := by
  have h := p_shl (P := P) hop hx hy (by omega)
  have e1 : IntKind.wrap .u32 ((a : Int) * 2 ^ (min (b : Int).toNat (IntKind.bits .u32))) = ((a * 2 ^ b : Nat) : Int) := by
    rw [Int.toNat_natCast, Nat.min_eq_left (show b ≤ IntKind.bits .u32 from hb)]
    have : (a : Int) * 2 ^ b = ((a * 2 ^ b : Nat) : Int) := by simp
    rw [this]
    exact wrap_u32 (by omega) (by omega)
  rwa [e1] at h
theorem wrap_byte (a : Nat) : Value.int .u8 (IntKind.wrap .u8 (a : Int)) = u8V (UInt8.ofNat a) := by
  unfold u8V
  refine congrArg (Value.int .u8) ?_
  unfold IntKind.wrap
  simp [IntKind.bits, IntKind.signed]
theorem p_convB {src dst : TypeId} {ks : IntKind} {a : Nat} (hop : o.op = .convert src dst x) (hs : P.underlying src = some (.int ks)) (hd : P.underlying dst = some (.int .u8)) (hx : ev e x = .int ks (a : Int)) : PRun P e o (u8V (UInt8.ofNat a)) := by
  have h := p_conv (P := P) hop hs hd hx
  rwa [wrap_byte] at h
/-- Two numbers whose bits lie apart. -/
theorem p_orApart {t t' : TypeId} {a b i : Nat} (hop : o.op = .binOp .or t x y t') (hx : ev e x = .int .u32 (a : Int)) (hy : ev e y = .int .u32 ((b * 2 ^ i : Nat) : Int)) (ha : a < 2 ^ i) (h1 : a + b * 2 ^ i < 4294967296) : PRun P e o (.int .u32 ((a + b * 2 ^ i : Nat) : Int)) := by
  have h := p_or (P := P) hop hx hy
  have e1 : IntKind.wrap .u32 ((BitVec.ofInt (IntKind.bits .u32) (a : Int) ||| BitVec.ofInt (IntKind.bits .u32) ((b * 2 ^ i : Nat) : Int)).toNat : Int) = ((a + b * 2 ^ i : Nat) : Int) := by
    have e2 : (BitVec.ofInt (IntKind.bits .u32) (a : Int) ||| BitVec.ofInt (IntKind.bits .u32) ((b * 2 ^ i : Nat) : Int)).toNat = a + b * 2 ^ i := by
      show (BitVec.ofInt 32 (a : Int) ||| BitVec.ofInt 32 ((b * 2 ^ i : Nat) : Int)).toNat = a + b * 2 ^ i
      rw [BitVec.toNat_or, BitVec.ofInt_natCast, BitVec.ofInt_natCast, BitVec.toNat_ofNat, BitVec.toNat_ofNat, Nat.mod_eq_of_lt (by omega), Nat.mod_eq_of_lt (by omega), Nat.or_comm, Nat.mul_comm b, ← Nat.two_pow_add_eq_or_of_lt ha, Nat.add_comm]
    rw [e2]
    exact wrap_u32 (by omega) (by omega)
  rwa [e1] at h
theorem p_and7 {t t' : TypeId} {n : Int} (hop : o.op = .binOp .and t x y t') (hx : ev e x = .int .i64 n) (hy : ev e y = .int .i64 7) : PRun P e o (intV (n % 8).toNat) := by
  have h := p_and (P := P) hop hx hy
  have e1 : IntKind.wrap .i64 ((BitVec.ofInt (IntKind.bits .i64) n &&& BitVec.ofInt (IntKind.bits .i64) 7).toNat : Int) = (((n % 8).toNat : Nat) : Int) := by
    have e2 : (BitVec.ofInt (IntKind.bits .i64) n &&& BitVec.ofInt (IntKind.bits .i64) 7).toNat = (n % 8).toNat := by
      show (BitVec.ofInt 64 n &&& BitVec.ofInt 64 7).toNat = (n % 8).toNat
      rw [BitVec.toNat_and, BitVec.toNat_ofInt]
      have h7 : (BitVec.ofInt 64 7).toNat = 2 ^ 3 - 1 := rfl
      rw [h7, Nat.and_two_pow_sub_one_eq_mod]
      omega
    rw [e2]
    exact wrap64_in (by omega) (by omega)
  rwa [e1] at h
theorem p_index_aggA {t el : TypeId} {i : Operand} {n sz : Nat} {k : IntKind} {j : Nat} {cs vs : List Value} (hop : o.op = .index t x i) (ht : P.underlying t = some (.array n el)) (hz : TySize P el sz) (hs : IsAgg P el)
    (hx : ev e x = .agg cs.toArray) (hi : ev e i = .int k (j : Int)) (hj : j < n) (hv : (cs.drop (j * sz)).take sz = vs) : PRun P e o (.agg vs.toArray) := by
  subst hv
  exact p_index_agg hop ht hz hs hx hi hj
theorem p_nilCheckI {t : TypeId} {v : Value} (hop : o.op = .nilCheck x) (hx : ev e x = .iface t v) : PRun P e o (.iface t v) := by
  intro w; unfold execOp; rw [hop]; simp only [hx]; rfl
end
theorem load_cellV {P : Program} {Hs : List Assn} {t : TypeId} {b off i sz : Nat} {T : TypeId} {cs vs : List Value} (ht : IsAgg P t) (hsz : TySize P t sz) (hn : nth Hs i = some (row b T cs)) (hl : off + sz ≤ cs.length) (hv : (cs.drop off).take sz = vs) :
    ∀ W0 w, Sat W0 (sep Hs) w → (loadVar t ⟨b, off, none⟩).run P w = .ok (.agg vs.toArray) w := by
  intro W0 w hs
  simp only [loadVar, Sem.run_bind, Sem.run_pure, Result.andThen_ok, run_isAgg_yes ht, if_true, run_sizeOf' hsz, hs.loadCells hn hl, hv]
theorem lay_snoc {cs A : List Value} {k : Nat} {v : Value} (h : k + A.length < cs.length) : (lay cs k A).set (k + A.length) v = lay cs k (A ++ [v]) := by
  rw [lay_eq _ _ _ (by omega), lay_eq _ _ _ (by simp; omega)]
  rw [List.set_append_right _ _ (by simp; omega)]
  have e1 : k + A.length - (cs.take k ++ A).length = 0 := by simp; omega
  rw [e1, List.drop_eq_getElem_cons h, List.set_cons_zero, List.append_assoc, List.append_assoc, List.append_assoc]
  simp [Nat.add_assoc]
theorem Ent.rowEq {b T : Nat} {cs cs' : List Value} {L : List Assn} (h : cs = cs') : Ent (sep (row b T cs :: L)) (sep (row b T cs' :: L)) := by rw [h]; exact Ent.refl _
theorem lay_mid {cs A : List Value} (B C D : List Value) (h : cs = B ++ C ++ D) (h1 : C.length = A.length) : lay cs B.length A = B ++ A ++ D := by
  subst h
  rw [lay_eq _ _ _ (by simp; omega)]
  congr 1
  · congr 1
    rw [List.append_assoc, List.take_left]
  · rw [← h1, ← List.length_append, List.drop_left]
end Go.Sl
namespace Go.Sl
open Go
/-- A tree of orders: a list, then two effects that may come up either way. -/
inductive OT3 where
  | go (l : List (Nat × Kd3))
  | br (l : List (Nat × Kd3)) (i : Nat) (s : OT3) (j : Nat) (t : OT3)
  | br3 (l : List (Nat × Kd3)) (i : Nat) (s : OT3) (j : Nat) (t : OT3) (k : Nat) (u : OT3)
section orders
variable {P : Program} {ops : Array Oper} {Q : Exit → Act → World → Prop} {md : Region.Mode} {S : World → Prop} {z : Nat}
def oneReady3 (md : Region.Mode) (ops : Array Oper) (i : Nat) (listed : Array Bool) : Bool := match Region.ready md ops listed with
  | [j] => Nat.beq i j && Nat.blt i listed.size
  | _ => false
/-- What is listed behind the list, if it may be walked for all. -/
def ordPre3 (md : Region.Mode) (ops : Array Oper) (z : Nat) : List (Nat × Kd3) → Array Bool → Option (Array Bool)
  | [], listed => some listed
  | (i, .pure) :: l, listed => if (Region.ready md ops listed).contains i && Region.free md ops listed i && !(Nat.beq i z) then ordPre3 md ops z l (listed.setIfInBounds i true) else none
  | (i, .load) :: l, listed => if (Region.ready md ops listed).contains i && Region.free md ops listed i && waitsB md ops z i && !(listed.getD z false) then ordPre3 md ops z l (listed.setIfInBounds i true) else none
  | (i, .eff) :: l, listed => if oneReady3 md ops i listed then ordPre3 md ops z l (listed.setIfInBounds i true) else none
def ordTree3 (md : Region.Mode) (ops : Array Oper) (z : Nat) : OT3 → Nat → Array Bool → Bool
  | .go l, n, listed => Nat.beq l.length n && ordOk md ops z l listed
  | .br l i s j t, n, listed => match ordPre3 md ops z l listed with
    | none => false
    | some listed' => Nat.ble (l.length + 1) n && (match Region.ready md ops listed' with | [a, b] => Nat.beq a i && Nat.beq b j && Nat.blt i listed'.size && Nat.blt j listed'.size | _ => false)
        && ordTree3 md ops z s (n - l.length - 1) (listed'.setIfInBounds i true) && ordTree3 md ops z t (n - l.length - 1) (listed'.setIfInBounds j true)
  | .br3 l i s j t k u, n, listed => match ordPre3 md ops z l listed with
    | none => false
    | some listed' => Nat.ble (l.length + 1) n && (match Region.ready md ops listed' with | [a, b, c] => Nat.beq a i && Nat.beq b j && Nat.beq c k && Nat.blt i listed'.size && Nat.blt j listed'.size && Nat.blt k listed'.size | _ => false)
        && ordTree3 md ops z s (n - l.length - 1) (listed'.setIfInBounds i true) && ordTree3 md ops z t (n - l.length - 1) (listed'.setIfInBounds j true) && ordTree3 md ops z u (n - l.length - 1) (listed'.setIfInBounds k true)
theorem wpX_eff3 {Qn : Act → World → Prop} {R : Act → World → Prop} {i : Nat} {l : List (Nat × Kd3)} {a : Act} {w : World} {K : Act → World → Prop} {listed : Array Bool} (hi : i < listed.size)
    (h : wpX P ops S z Qn ((i, .eff) :: l) a w) (hk : ∀ a' w', (S w' ∨ (listed.setIfInBounds i true).getD z false = true) → wpX P ops S z Qn l a' w' → K a' w') :
    wpOp P ops (fun x a w => x = .normal ∧ R a w) i (fun a' w' => (S w' ∨ (listed.setIfInBounds i true).getD z false = true) ∧ K a' w') a w := by
  unfold wpX at h
  have hq : ∀ K : Act → World → Prop, wpOp P ops (fun _ _ _ => False) i K a w → wpOp P ops (fun x a w => x = .normal ∧ R a w) i K a w := by
    intro K
    unfold wpOp
    split
    · exact id
    · split
      · intro hh
        rcases hh with hh | ⟨_, _, _, hh⟩
        · left
          unfold Oper.wp at *
          generalize (execOp a.eval _).run P w = r at *
          cases r with
          | ok n w' =>
            cases n <;> simp only [Oper.upon] at hh ⊢ <;> first
              | exact hh
              | (refine Calls.mono hh fun e w'' he => ?_
                 cases e with
                 | returned u => exact he
                 | panicked c => exact he.elim
                 | outgrown => obtain ⟨_, _, he⟩ := he; exact he.elim)
          | halt x w' => cases x <;> simp only [Oper.upon] at hh ⊢
        · exact hh.elim
      · exact id
  refine hq _ (wpOp_mono (fun a' w' h3 => ?_) h)
  have hS' : S w' ∨ (listed.setIfInBounds i true).getD z false = true := by
    rcases h3.1 with g | g
    · exact .inl g
    · right; subst g; simp [hi]
  exact ⟨hS', hk a' w' hS' h3.2⟩
theorem wpX_pre3 {Qn R : Act → World → Prop} {n : Nat} {listed' : Array Bool} (hs : Region.noSelect ops = true)
    (hn : ∀ a w, (S w ∨ listed'.getD z false = true) → Qn a w → wpAnyG P md ops (fun x a w => x = .normal ∧ R a w) S z n listed' a w) : ∀ (l : List (Nat × Kd3)) (listed : Array Bool) (a : Act) (w : World),
    ordPre3 md ops z l listed = some listed' → (S w ∨ listed.getD z false = true) → wpX P ops S z Qn l a w →
    wpAnyG P md ops (fun x a w => x = .normal ∧ R a w) S z (l.length + n) listed a w
  | [], listed, a, w, ho, hS, h => by
    simp only [ordPre3, Option.some.injEq] at ho
    subst ho
    rw [List.length_nil, Nat.zero_add]
    exact hn a w hS h
  | (i, .pure) :: l, listed, a, w, ho, hS, h => by
    simp only [ordPre3] at ho
    split at ho
    · rename_i hc
      simp only [Bool.and_eq_true, Bool.not_eq_true'] at hc
      obtain ⟨⟨hr, hf⟩, hiz⟩ := hc
      obtain ⟨o, v, hi, hy, hnx⟩ := h
      rw [List.length_cons, show l.length + 1 + n = l.length + n + 1 from by omega]
      refine wpAnyG_pure hi (Region.noSelect_spec hs) (fun c a w hh => by cases hh.1) (fun g => by rw [g] at hiz; simp at hiz) (l.length + n) listed a w (Region.free_spec hi hf) (by simpa using hr) hy hS ?_
      exact wpX_pre3 hs hn l _ _ _ ho (hS.imp id getD_false_set) hnx
    · cases ho
  | (i, .load) :: l, listed, a, w, ho, hS, h => by
    simp only [ordPre3] at ho
    split at ho
    · rename_i hc
      simp only [Bool.and_eq_true, Bool.not_eq_true'] at hc
      obtain ⟨⟨⟨hr, hf⟩, hw⟩, hlz⟩ := hc
      obtain ⟨o, v, hi, hy, hSw, hnx⟩ := h
      rw [List.length_cons, show l.length + 1 + n = l.length + n + 1 from by omega]
      refine wpAnyG_load hi (Region.noSelect_spec hs) (fun c a w hh => by cases hh.1) (waitsB_spec hw) (l.length + n) listed a w (Region.free_spec hi hf) (by simpa using hr) hlz hy hSw ?_
      exact wpX_pre3 hs hn l _ _ _ ho (.inl hSw) hnx
    · cases ho
  | (i, .eff) :: l, listed, a, w, ho, hS, h => by
    simp only [ordPre3] at ho
    split at ho
    · rename_i hr
      have hrr : Region.ready md ops listed = [i] ∧ i < listed.size := by
        unfold oneReady3 at hr
        split at hr
        · rename_i j hj
          simp only [Bool.and_eq_true] at hr
          rw [hj, Nat.eq_of_beq_eq_true hr.1]
          refine ⟨rfl, by have := hr.2; rw [Nat.eq_of_beq_eq_true hr.1] at this; simpa using this⟩
        · cases hr
      rw [List.length_cons, show l.length + 1 + n = l.length + n + 1 from by omega]
      refine ⟨fun h0 => (by rw [hrr.1] at h0; cases h0), fun j hj => ?_⟩
      rw [hrr.1] at hj
      simp only [List.mem_singleton] at hj
      subst hj
      exact wpX_eff3 hrr.2 h fun a' w' hS' h' => wpX_pre3 hs hn l _ _ _ ho hS' h'
    · cases ho
/-- The tree, walked. -/
def wpTr3 (P : Program) (ops : Array Oper) (S : World → Prop) (z : Nat) (Qn : Act → World → Prop) : OT3 → Act → World → Prop
  | .go l, a, w => wpX P ops S z Qn l a w
  | .br l i s j t, a, w => wpX P ops S z (fun a w => wpX P ops S z (fun a w => wpTr3 P ops S z Qn s a w) [(i, .eff)] a w ∧ wpX P ops S z (fun a w => wpTr3 P ops S z Qn t a w) [(j, .eff)] a w) l a w
  | .br3 l i s j t k u, a, w => wpX P ops S z (fun a w => wpX P ops S z (fun a w => wpTr3 P ops S z Qn s a w) [(i, .eff)] a w ∧ wpX P ops S z (fun a w => wpTr3 P ops S z Qn t a w) [(j, .eff)] a w ∧ wpX P ops S z (fun a w => wpTr3 P ops S z Qn u a w) [(k, .eff)] a w) l a w
theorem wpTr_G3 {Qn : Act → World → Prop} (hs : Region.noSelect ops = true) : ∀ (t : OT3) (n : Nat) (listed : Array Bool) (a : Act) (w : World),
    ordTree3 md ops z t n listed = true → (S w ∨ listed.getD z false = true) → wpTr3 P ops S z Qn t a w →
    wpAnyG P md ops (fun x a w => x = .normal ∧ Qn a w) S z n listed a w
  | .go l, n, listed, a, w, ho, hS, h => by
    simp only [ordTree3, Bool.and_eq_true] at ho
    rw [← Nat.eq_of_beq_eq_true ho.1]
    exact wpX_G hs l _ _ _ ho.2 hS h
  | .br l i s j t, n, listed, a, w, ho, hS, h => by
    simp only [ordTree3] at ho
    split at ho
    · cases ho
    · rename_i listed' hp
      simp only [Bool.and_eq_true] at ho
      obtain ⟨⟨⟨hl, hr⟩, h1⟩, h2⟩ := ho
      have hl := Nat.le_of_ble_eq_true hl
      have hrr : Region.ready md ops listed' = [i, j] ∧ i < listed'.size ∧ j < listed'.size := by
        split at hr
        · rename_i a b hab
          simp only [Bool.and_eq_true] at hr
          obtain ⟨⟨⟨g1, g2⟩, g3⟩, g4⟩ := hr
          rw [hab, Nat.eq_of_beq_eq_true g1, Nat.eq_of_beq_eq_true g2]
          exact ⟨rfl, by simpa using g3, by simpa using g4⟩
        · cases hr
      rw [show n = l.length + (n - l.length - 1 + 1) from by omega]
      refine wpX_pre3 hs (fun a w hS' h' => ?_) l _ _ _ hp hS h
      refine ⟨fun h0 => (by rw [hrr.1] at h0; cases h0), fun k hk => ?_⟩
      rw [hrr.1] at hk
      simp only [List.mem_cons, List.not_mem_nil, or_false] at hk
      rcases hk with rfl | rfl
      · exact wpX_eff3 hrr.2.1 h'.1 fun a' w' hS2 h2' => wpTr_G3 hs s _ _ _ _ h1 hS2 h2'
      · exact wpX_eff3 hrr.2.2 h'.2 fun a' w' hS2 h2' => wpTr_G3 hs t _ _ _ _ h2 hS2 h2'
  | .br3 l i s j t k u, n, listed, a, w, ho, hS, h => by
    simp only [ordTree3] at ho
    split at ho
    · cases ho
    · rename_i listed' hp
      simp only [Bool.and_eq_true] at ho
      obtain ⟨⟨⟨⟨hl, hr⟩, h1⟩, h2⟩, h3⟩ := ho
      have hl := Nat.le_of_ble_eq_true hl
      have hrr : Region.ready md ops listed' = [i, j, k] ∧ i < listed'.size ∧ j < listed'.size ∧ k < listed'.size := by
        split at hr
        · rename_i a b c hab
          simp only [Bool.and_eq_true] at hr
          obtain ⟨⟨⟨⟨⟨g1, g2⟩, g3⟩, g4⟩, g5⟩, g6⟩ := hr
          rw [hab, Nat.eq_of_beq_eq_true g1, Nat.eq_of_beq_eq_true g2, Nat.eq_of_beq_eq_true g3]
          exact ⟨rfl, by simpa using g4, by simpa using g5, by simpa using g6⟩
        · cases hr
      rw [show n = l.length + (n - l.length - 1 + 1) from by omega]
      refine wpX_pre3 hs (fun a w hS' h' => ?_) l _ _ _ hp hS h
      refine ⟨fun h0 => (by rw [hrr.1] at h0; cases h0), fun x hk => ?_⟩
      rw [hrr.1] at hk
      simp only [List.mem_cons, List.not_mem_nil, or_false] at hk
      rcases hk with rfl | rfl | rfl
      · exact wpX_eff3 hrr.2.1 h'.1 fun a' w' hS2 h2' => wpTr_G3 hs s _ _ _ _ h1 hS2 h2'
      · exact wpX_eff3 hrr.2.2.1 h'.2.1 fun a' w' hS2 h2' => wpTr_G3 hs t _ _ _ _ h2 hS2 h2'
      · exact wpX_eff3 hrr.2.2.2 h'.2.2 fun a' w' hS2 h2' => wpTr_G3 hs u _ _ _ _ h3 hS2 h2'
end orders
theorem wpTr_region3 {P : Program} {id z : Nat} {ops : Array Oper} {S : World → Prop} {Qn : Act → World → Prop} {a : Act} {w : World} {t : OT3} (hm : P.follows .mixedOrders = true)
    (hs : Region.noSelect ops = true) (ho : ordTree3 .any ops z t ops.size (Array.replicate ops.size false) = true) (hS : S w.drew)
    (h : wpTr3 P ops S z Qn t a w.drew) : (Code.region id ops true).wp P (fun x a w => x = .normal ∧ Qn a w) a w := by
  refine wp_region_any hm (wpAny_of_G (S := S) (z := z) _ _ _ _ ?_)
  exact wpTr_G3 hs t _ _ _ _ ho (.inl hS) h
section regions
variable {P : Program} {N : Nat} {ops : Array Oper} {Bs : List Assn} {z : Nat} {Q : Next1} {e : Env} {Hs : List Assn}
/-- A tree of orders. -/
def RDT3 (P : Program) (N : Nat) (ops : Array Oper) (Bs : List Assn) (z : Nat) (Q : Next1) : OT3 → Env → List Assn → Prop
  | .go l, e, Hs => RD P N ops Bs z Q l e Hs
  | .br l i s j t, e, Hs => RD P N ops Bs z (fun e Hs => RD P N ops Bs z (fun e Hs => RDT3 P N ops Bs z Q s e Hs) [(i, .eff)] e Hs ∧ RD P N ops Bs z (fun e Hs => RDT3 P N ops Bs z Q t e Hs) [(j, .eff)] e Hs) l e Hs
  | .br3 l i s j t k u, e, Hs => RD P N ops Bs z (fun e Hs => RD P N ops Bs z (fun e Hs => RDT3 P N ops Bs z Q s e Hs) [(i, .eff)] e Hs ∧ RD P N ops Bs z (fun e Hs => RDT3 P N ops Bs z Q t e Hs) [(j, .eff)] e Hs ∧ RD P N ops Bs z (fun e Hs => RDT3 P N ops Bs z Q u e Hs) [(k, .eff)] e Hs) l e Hs
theorem RDT3.go {l : List (Nat × Kd3)} (h : RD P N ops Bs z Q l e Hs) : RDT3 P N ops Bs z Q (.go l) e Hs := h
theorem RDT3.br {l : List (Nat × Kd3)} {i j : Nat} {s t : OT3} (h : RD P N ops Bs z (fun e Hs => RD P N ops Bs z (fun e Hs => RDT3 P N ops Bs z Q s e Hs) [(i, .eff)] e Hs ∧ RD P N ops Bs z (fun e Hs => RDT3 P N ops Bs z Q t e Hs) [(j, .eff)] e Hs) l e Hs) :
    RDT3 P N ops Bs z Q (.br l i s j t) e Hs := h
theorem RDT3.br3 {l : List (Nat × Kd3)} {i j k : Nat} {s t u : OT3} (h : RD P N ops Bs z (fun e Hs => RD P N ops Bs z (fun e Hs => RDT3 P N ops Bs z Q s e Hs) [(i, .eff)] e Hs ∧ RD P N ops Bs z (fun e Hs => RDT3 P N ops Bs z Q t e Hs) [(j, .eff)] e Hs ∧ RD P N ops Bs z (fun e Hs => RDT3 P N ops Bs z Q u e Hs) [(k, .eff)] e Hs) l e Hs) :
    RDT3 P N ops Bs z Q (.br3 l i s j t k u) e Hs := h
theorem wpX_mono3 {S : World → Prop} {Qn Qn' : Act → World → Prop} (h : ∀ a w, Qn a w → Qn' a w) : ∀ (l : List (Nat × Kd3)) (a : Act) (w : World), wpX P ops S z Qn l a w → wpX P ops S z Qn' l a w
  | [], a, w, hh => h a w hh
  | (i, .pure) :: l, a, w, ⟨o, v, h1, h2, h3⟩ => ⟨o, v, h1, h2, wpX_mono3 h l _ _ h3⟩
  | (i, .load) :: l, a, w, ⟨o, v, h1, h2, h3, h4⟩ => ⟨o, v, h1, h2, h3, wpX_mono3 h l _ _ h4⟩
  | (i, .eff) :: l, a, w, hh => wpOp_mono (fun a' w' h3 => ⟨h3.1, wpX_mono3 h l _ _ h3.2⟩) hh
theorem RDT3.spec {W0 : World} : ∀ (t : OT3) {e : Env} {Hs : List Assn} {a : Act} {w : World}, RDT3 P N ops Bs z Q t e Hs → EnvOk N a e → Sat W0 (sep Hs) w →
    wpTr3 P ops (Sat W0 (sep Bs)) z (fun a' w' => ∃ e' Hs', EnvOk N a' e' ∧ Sat W0 (sep Hs') w' ∧ Q e' Hs') t a w
  | .go l, e, Hs, a, w, h, ha, hs => h W0 a w ha hs
  | .br l i s j t, e, Hs, a, w, h, ha, hs => by
    have h : RD P N ops Bs z _ l e Hs := h
    refine wpX_mono3 (fun a1 w1 => ?_) l _ _ (h W0 a w ha hs)
    rintro ⟨e1, H1, ha1, hs1, g1, g2⟩
    refine ⟨wpX_mono3 (fun a2 w2 => ?_) _ _ _ (g1 W0 a1 w1 ha1 hs1), wpX_mono3 (fun a2 w2 => ?_) _ _ _ (g2 W0 a1 w1 ha1 hs1)⟩
    · rintro ⟨e2, H2, ha2, hs2, g⟩
      exact RDT3.spec s g ha2 hs2
    · rintro ⟨e2, H2, ha2, hs2, g⟩
      exact RDT3.spec t g ha2 hs2
  | .br3 l i s j t k u, e, Hs, a, w, h, ha, hs => by
    have h : RD P N ops Bs z _ l e Hs := h
    refine wpX_mono3 (fun a1 w1 => ?_) l _ _ (h W0 a w ha hs)
    rintro ⟨e1, H1, ha1, hs1, g1, g2, g3⟩
    refine ⟨wpX_mono3 (fun a2 w2 => ?_) _ _ _ (g1 W0 a1 w1 ha1 hs1), wpX_mono3 (fun a2 w2 => ?_) _ _ _ (g2 W0 a1 w1 ha1 hs1), wpX_mono3 (fun a2 w2 => ?_) _ _ _ (g3 W0 a1 w1 ha1 hs1)⟩
    · rintro ⟨e2, H2, ha2, hs2, g⟩
      exact RDT3.spec s g ha2 hs2
    · rintro ⟨e2, H2, ha2, hs2, g⟩
      exact RDT3.spec t g ha2 hs2
    · rintro ⟨e2, H2, ha2, hs2, g⟩
      exact RDT3.spec u g ha2 hs2
theorem T.regionT3 {id : Nat} {R : Post} {t : OT3} (hm : P.follows .mixedOrders = true)
    (ho : (Region.noSelect ops && ordTree3 .any ops z t ops.size (Array.replicate ops.size false)) = true) (hB : Ent (sep Hs) (sep Bs))
    (h : RDT3 P N ops Bs z (fun e H => R .normal e H) t e Hs) : T P N (.region id ops true) R e Hs := by
  simp only [Bool.and_eq_true] at ho
  intro W0 a w ha hs
  refine wp_mono (wpTr_region3 hm ho.1 ho.2 (hs.mono hB).drew (RDT3.spec t h ha hs.drew)) ?_
  rintro x a' w' ⟨rfl, e', H', h1, h2, h3⟩
  exact ⟨e', H', h1, h2, h3⟩
end regions
end Go.Sl
