/-
  The library's own contracts as contracts of owned memory; runes to texts. It proves nothing of the program by itself.
-/
import Derived.Test.YtokbjejbgbdkoaaDoorGSl16
import Derived.Test.YtokbjejbgbdkoaaDoorGModelU
import Derived.Below
import Derived.Shelf.Unicode.DecodeAny
set_option linter.unusedVariables false
set_option linter.unusedSimpArgs false
namespace Go.Sl
open Go Go.Proofs Go.RowKit Go.ChangeShapes
set_option maxRecDepth 100000
theorem Sat.below {W0 w w' : World} {A : Assn} (s : Sat W0 A w) (h : Below w.heap.size w w') : Sat W0 A w' := s.same ⟨h.os, h.tape, h.output, h.size⟩ (fun k hk => h.block k hk)
/-- A contract of the library's that keeps all that there is. -/
theorem Ctr.ofBelow {P : Program} {f : FuncId} {args : List Value} {pre : List Assn} {v : Value} (hcal : Callable P f) (h : ∀ W0 Fr w, Sat W0 (sep (pre ++ [Fr])) w → Calls P f args.toArray w (fun e w' => e = .returned v ∧ Below w.heap.size w w')) :
    Ctr P f args pre (fun u Ps => u = v ∧ Ps = pre) :=
  ⟨hcal, fun W0 Fr w hs => (h W0 Fr w hs).mono fun _ _ ⟨he, hb⟩ => ⟨v, pre, he, ⟨rfl, rfl⟩, hs.below hb⟩⟩
theorem Ctr.ofSame {P : Program} {f : FuncId} {args : List Value} {pre : List Assn} {v : Value} (hcal : Callable P f) (h : ∀ W0 Fr w, Sat W0 (sep (pre ++ [Fr])) w → Calls P f args.toArray w (fun e w' => e = .returned v ∧ w' = w)) :
    Ctr P f args pre (fun u Ps => u = v ∧ Ps = pre) :=
  ⟨hcal, fun W0 Fr w hs => (h W0 Fr w hs).mono fun _ _ ⟨he, hb⟩ => ⟨v, pre, he, ⟨rfl, rfl⟩, by rw [hb]; exact hs⟩⟩
/-- The package variables that the library reads, as they are laid. -/
structure Glob (g3 g4 : Nat) (A : Assn) : Prop where
  utf8 : ∀ W0 L w, Sat W0 (sep (A :: L)) w → Lib.Utf8Tabs g3 g4 w
section
variable {P : Program} {e : Env} {o : Oper} {x y : Operand}
theorem p_runeStr {src dst : TypeId} {ks k : IntKind} {r : Nat} (hop : o.op = .convert src dst x) (hs : P.underlying src = some (.int ks)) (hd : P.underlying dst = some .string) (hx : ev e x = .int k (r : Int)) : PRun P e o (strV (Go.Mo.enc r)) := by
  intro w; unfold execOp; rw [hop]; simp only [hx]
  simp only [convert, Sem.run_bind, run_underlying' hs, run_underlying' hd, Result.andThen_ok, Conv.intToString]
  have h2 : Utf8.encode (r : Int) = ⟨(Go.Mo.enc r).toArray⟩ := by unfold Go.Mo.enc; cases Utf8.encode (r : Int); simp
  rw [h2]
  rfl
theorem p_and15 {t t' : TypeId} {v : Nat} (hv : v < 2147483648) (hop : o.op = .binOp .and t x y t') (hx : ev e x = .int .i32 (v : Int)) (hy : ev e y = .int .i32 15) : PRun P e o (.int .i32 ((v % 16 : Nat) : Int)) := by
  have h := p_and (P := P) hop hx hy
  have e1 : IntKind.wrap .i32 ((BitVec.ofInt (IntKind.bits .i32) (v : Int) &&& BitVec.ofInt (IntKind.bits .i32) 15).toNat : Int) = ((v % 16 : Nat) : Int) := by
    have e2 : (BitVec.ofInt (IntKind.bits .i32) (v : Int) &&& BitVec.ofInt (IntKind.bits .i32) 15).toNat = v % 16 := by
      show (BitVec.ofInt 32 (v : Int) &&& BitVec.ofInt 32 15).toNat = v % 16
      rw [BitVec.toNat_and, BitVec.ofInt_natCast, BitVec.toNat_ofNat, Nat.mod_eq_of_lt (by omega)]
      exact Nat.and_two_pow_sub_one_eq_mod v 4
    rw [e2]
    exact wrap_i32 (by omega) (by omega)
  rwa [e1] at h
theorem p_addN32 {t t' : TypeId} {a b : Nat} (hop : o.op = .binOp .add t x y t') (hx : ev e x = .int .i32 (a : Int)) (hy : ev e y = .int .i32 (b : Int)) (h : a + b ≤ 2147483647) : PRun P e o (.int .i32 ((a + b : Nat) : Int)) := by
  have := p_add_w (P := P) hop hx hy
  rwa [← Int.natCast_add, wrap_i32 (by omega) (by omega)] at this
theorem p_mulN32 {t t' : TypeId} {a b : Nat} (hop : o.op = .binOp .mul t x y t') (hx : ev e x = .int .i32 (a : Int)) (hy : ev e y = .int .i32 (b : Int)) (h : a * b ≤ 2147483647) : PRun P e o (.int .i32 ((a * b : Nat) : Int)) := by
  have := p_mul_w (P := P) hop hx hy
  rwa [← Int.natCast_mul, wrap_i32 (by omega) (by omega)] at this
theorem p_shr4 {t t' : TypeId} {v : Nat} {k' : IntKind} (hop : o.op = .binOp .shr t x y t') (hx : ev e x = .int .i32 (v : Int)) (hy : ev e y = .int k' 4) : PRun P e o (.int .i32 ((v / 16 : Nat) : Int)) := by
  have h := p_shr (P := P) hop hx hy (by omega)
  have e1 : (v : Int).fdiv (2 ^ (min (4 : Int).toNat (IntKind.bits .i32))) = ((v / 16 : Nat) : Int) := by
    show (v : Int).fdiv 16 = _
    rw [Int.fdiv_eq_ediv_of_nonneg _ (by omega)]
    rfl
  rwa [e1] at h
end
end Go.Sl
namespace Go.Sl
open Go
theorem vec_eq {el sz n n' : Nat} {v : Value} {xs xs' : List Value} (h1 : n = n') (h2 : xs = xs') : Ent (vec el sz v n xs) (vec el sz v n' xs') := by
  subst h1 h2
  exact Ent.refl _
end Go.Sl
namespace Go.Sl
open Go
section
variable {P : Program} {e : Env} {o : Oper} {x y : Operand}
theorem p_makeIface {t : TypeId} {fs : Array Field} {v : Value} (hop : o.op = .makeInterface t x) (ht : P.underlying t = some (.struct fs)) (hx : ev e x = v) : PRun P e o (.iface t v) := by
  intro w; unfold execOp; rw [hop]; simp only [hx]
  simp only [Instr.makeInterface, Sem.run_bind, run_underlying' ht, Result.andThen_ok]
  rfl
/-- Two nil interfaces, one of them the literal nil. -/
theorem p_ifeql_nil {t t' : TypeId} {ms : Array (String × TypeId)} (hop : o.op = .binOp .eql t x (.const .nilIface) t') (hx : ev e x = .nilIface) (ht : P.underlying t = some (.interface ms)) : PRun P e o (.bool true) := by
  intro w; unfold execOp; rw [hop]; simp only [hx]
  have : (Op.equal t .nilIface .nilIface).run P w = .ok true w := by
    have key : ∀ k, (Op.equalIn (k + 1) t .nilIface .nilIface).run P w = .ok true w := by
      intro k
      simp [Op.equalIn, run_underlying' ht]
    exact key 9999
  have hb : (binOp .eql t .nilIface .nilIface).run P w = .ok (.bool true) w := by
    unfold binOp
    simp only [Sem.run_bind, this, Result.andThen_ok, Sem.run_pure]
  simp only [ev, eqGuard, Sem.run_bind]
  simp [hb]
end
end Go.Sl
