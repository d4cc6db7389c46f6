/-
  Numbers' bits, a page changed. It proves nothing of the program by itself.
-/
import Derived.Test.YticfabhcfdmbjaaYtP54
import Derived.Test.YticfabhcfdmbjaaModelW
set_option linter.unusedVariables false
set_option linter.unusedSimpArgs false
namespace Go.Mo
open Go Go.Sl
def andN (a : Int) (c : Nat) : Nat := (BitVec.ofInt 64 a &&& BitVec.ofInt 64 (c : Int)).toNat
theorem andN_le {a : Int} {c : Nat} (hc : c < 18446744073709551616) : andN a c ≤ c := by
  unfold andN
  rw [BitVec.toNat_and, BitVec.ofInt_natCast, BitVec.toNat_ofNat, Nat.mod_eq_of_lt hc]
  exact Nat.and_le_right
theorem wrap_i64 {m : Nat} (h : m < 9223372036854775808) : IntKind.wrap .i64 (m : Int) = m := by
  unfold IntKind.wrap
  simp [IntKind.bits, IntKind.signed]
  omega
def xorU (a b : Int) : Int := IntKind.wrap .u32 ((BitVec.ofInt 32 a ^^^ BitVec.ofInt 32 b).toNat : Int)
theorem xorU_ok (a b : Int) : U32 (xorU a b) := by
  unfold xorU U32 IntKind.wrap
  simp [IntKind.bits, IntKind.signed]
  omega
def xorB (a b : Int) : UInt8 := UInt8.ofNat (BitVec.ofInt 8 a ^^^ BitVec.ofInt 8 b).toNat
section
variable {P : Program} {e : Env} {o : Oper} {x y : Operand} {t t' : TypeId}
theorem p_andN {a : Int} {c : Nat} (hc : c < 9223372036854775808) (hop : o.op = .binOp .and t x y t') (hx : ev e x = .int .i64 a) (hy : ev e y = .int .i64 (c : Int)) : PRun P e o (.int .i64 ((andN a c : Nat) : Int)) := by
  have h := p_and (P := P) hop hx hy
  have e1 : IntKind.wrap .i64 ((BitVec.ofInt (IntKind.bits .i64) a &&& BitVec.ofInt (IntKind.bits .i64) (c : Int)).toNat : Int) = ((andN a c : Nat) : Int) :=
    wrap_i64 (m := andN a c) (by have := andN_le (a := a) (c := c) (by omega); omega)
  rwa [e1] at h
theorem p_xorU {a b : Int} (hop : o.op = .binOp .xor t x y t') (hx : ev e x = .int .u32 a) (hy : ev e y = .int .u32 b) : PRun P e o (u32V (xorU a b)) := p_xor hop hx hy
theorem p_xorB {a b : Int} (hop : o.op = .binOp .xor t x y t') (hx : ev e x = .int .u8 a) (hy : ev e y = .int .u8 b) : PRun P e o (u8V (xorB a b)) := by
  have h := p_xor (P := P) hop hx hy
  have hl : (BitVec.ofInt 8 a ^^^ BitVec.ofInt 8 b).toNat < 256 := (BitVec.ofInt 8 a ^^^ BitVec.ofInt 8 b).isLt
  have e1 : IntKind.wrap .u8 ((BitVec.ofInt (IntKind.bits .u8) a ^^^ BitVec.ofInt (IntKind.bits .u8) b).toNat : Int) = ((xorB a b).toNat : Int) := by
    unfold xorB
    rw [UInt8.toNat_ofNat']
    show IntKind.wrap .u8 ((BitVec.ofInt 8 a ^^^ BitVec.ofInt 8 b).toNat : Int) = _
    generalize (BitVec.ofInt 8 a ^^^ BitVec.ofInt 8 b).toNat = n at hl ⊢
    unfold IntKind.wrap
    simp [IntKind.bits, IntKind.signed]
  rw [e1] at h
  exact h
end
theorem load_var {P : Program} {Hs : List Assn} {t : TypeId} {b off i sz : Nat} {T : TypeId} {cs vs : List Value} (ht : IsAgg P t) (hsz : TySize P t sz) (hn : nth Hs i = some (row b T cs)) (hl : off + sz ≤ cs.length) (hv : (cs.drop off).take sz = vs) :
    ∀ W0 w, Sat W0 (sep Hs) w → (loadVar t ⟨b, off, none⟩).run P w = .ok (.agg vs.toArray) w := by
  intro W0 w hs
  simp only [loadVar, Sem.run_bind, Sem.run_pure, Result.andThen_ok, run_isAgg_yes ht, if_true, run_sizeOf' hsz, hs.loadCells hn hl, hv]
theorem pay_at {p : Pg} {j : Nat} (hj : j < p.pay.length) : p.cells[0 + 7 + j]? = some (u8V p.pay[j]) := by
  unfold Pg.cells
  rw [List.getElem?_append_right (by simp)]
  simp [hj]
theorem pay_put {p : Pg} {j : Nat} {x : UInt8} : p.cells.set (0 + 7 + j) (u8V x) = Pg.cells { p with pay := p.pay.set j x } := by
  unfold Pg.cells
  rw [List.set_append_right _ _ (by simp), List.map_set]
  congr 2
  simp
end Go.Mo
namespace Go.Proofs.Yticfabhcfdmbjaa
open Go Go.Sl Go.Proofs
set_option maxRecDepth 20000
open Go.Mo
theorem Changed_spec (p : Pg) (hp : p.fit) (hs : U32 p.seq) (o i f v : Int) : Ctr Try.prog 31 [.agg p.cells.toArray, .agg #[iV o, iV i, iV f, iV v]] [] (fun w Ps => ∃ p2 : Pg, w = .agg p2.cells.toArray ∧ p2.fit ∧ U32 p2.seq ∧ (p2.kind = p.kind ∨ (0 ≤ p2.kind ∧ p2.kind ≤ 3)) ∧ Ps = []) := by
  refine Ctr.of_body Try.func31 rfl (by kernel_rfl) Try.ntmps31 rfl rfl (fun Fr => ?_)
  have h255 : U32 ((andN v 255 : Nat) : Int) := by
    have := andN_le (a := v) (c := 255) (by omega)
    unfold U32
    omega
  have h31 : andN v 31 < p.pay.length := by
    have := andN_le (a := v) (c := 31) (by omega)
    have := hp.ok.pay
    omega
  have h32 := hp.ok.pay
  have h3 : 0 ≤ ((andN v 3 : Nat) : Int) ∧ ((andN v 3 : Nat) : Int) ≤ 3 := by
    have := andN_le (a := v) (c := 3) (by omega)
    omega
  refine T.cut (G := Nat × Nat × Nat × List Value) (fun ⟨b2, b3, b4, zz⟩ => zz.length = 39) (fun ⟨b2, b3, b4, zz⟩ => [(2, ptr b2 0), (3, ptr b3 0), (4, ptr b4 0)]) (fun ⟨b2, b3, b4, zz⟩ => [row b4 54 zz, row b3 66 [iV o, iV i, iV f, iV v], row b2 54 p.cells, Fr]) ?_ ?_
  ·
    refine T.region (l := [0, 1, 2]) rfl ?_
    refine RN.E rfl rfl rfl rfl (e_box rfl rfl rfl) ?_
    rintro _ _ ⟨b2, rfl, rfl⟩
    refine RN.E rfl rfl rfl rfl (e_box rfl rfl rfl) ?_
    rintro _ _ ⟨b3, rfl, rfl⟩
    refine RN.E rfl rfl rfl rfl (e_alloc rfl ti_54) ?_
    rintro _ _ ⟨b4, rfl, rfl⟩
    refine RN.nil ?_
    refine ⟨(b2, b3, b4, _), rfl, (LiveIs.cons rfl (LiveIs.cons rfl (LiveIs.cons rfl LiveIs.nil))), Ent.refl _⟩
  ·
    rintro ⟨b2, b3, b4, zz⟩ e1 hz1
    dsimp only at hz1 ⊢
    refine T.seq fun K2 hK2 => ?_
    refine T.region (l := [0, 1, 2, 3, 4]) rfl ?_
    refine RN.qq rfl rfl rfl rfl (PRun.q (p_fieldAddr rfl fa_66_3 rfl)) ?_
    refine RN.qq rfl rfl rfl rfl (q_load rfl sc_3 rfl (i := 1) rfl rfl) ?_
    refine RN.qq rfl rfl rfl rfl (PRun.q (p_andN (c := 255) (by omega) rfl rfl rfl)) ?_
    refine RN.qq rfl rfl rfl rfl (PRun.q (p_conv_u32 rfl Try.underlying3 Try.underlying48 rfl (by unfold U32 at h255; omega))) ?_
    refine RN.qq rfl rfl rfl rfl (PRun.q (p_assign rfl (by conv => lhs; whnf))) ?_
    refine RN.nil ?_
    refine hK2 _ _ ?_
    refine T.cut (G := Pg × List Value) (fun ⟨p2, zz⟩ => p2.fit ∧ U32 p2.seq ∧ (p2.kind = p.kind ∨ (0 ≤ p2.kind ∧ p2.kind ≤ 3)) ∧ zz.length = 39) (fun ⟨p2, zz⟩ => [(2, ptr b2 0), (4, ptr b4 0)]) (fun ⟨p2, zz⟩ => [row b4 54 zz, row b2 54 p2.cells, Fr]) ?_ ?_
    ·
      refine T.seq fun K4 hK4 => ?_
      refine T.region (l := [0, 1]) rfl ?_
      refine RN.qq rfl rfl rfl rfl (PRun.q (p_fieldAddr rfl fa_66_2 rfl)) ?_
      refine RN.qq rfl rfl rfl rfl (q_load rfl sc_3 rfl (i := 1) rfl rfl) ?_
      refine RN.nil ?_
      refine hK4 _ _ ?_
      refine T.block ?_
      refine T.seq fun K5 hK5 => ?_
      refine T.region (l := [0, 1]) rfl ?_
      refine RN.qq rfl rfl rfl rfl (PRun.q (p_eql rfl rfl rfl)) ?_
      refine RN.qq rfl rfl rfl rfl (PRun.q (p_assign rfl (by conv => lhs; whnf))) ?_
      refine RN.nil ?_
      refine hK5 _ _ ?_
      first | refine T.cond_dec rfl (fun h12 => ?_) (fun h12 => ?_) | refine T.cond rfl (fun h12 => ?_) (fun h12 => ?_)
      ·
        refine T.region (l := [0, 1, 2, 3, 4, 5]) rfl ?_
        refine RN.qq rfl rfl rfl rfl (PRun.q (p_fieldAddr rfl fa_54_1 rfl)) ?_
        refine RN.qq rfl rfl rfl rfl (q_load rfl sc_48 rfl (i := 2) rfl rfl) ?_
        refine RN.qq rfl rfl rfl rfl (PRun.q (p_move rfl (by conv => lhs; whnf))) ?_
        refine RN.qq rfl rfl rfl rfl (PRun.q (p_xorU rfl rfl rfl)) ?_
        refine RN.qq rfl rfl rfl rfl (PRun.q (p_fieldAddr rfl fa_54_1 rfl)) ?_
        refine RN.EN rfl rfl rfl (e_store rfl ts_48 rfl (by conv => lhs; whnf) (by first | rfl | assumption) (i := 2) rfl (by rw [Pg.cells_length h32]; omega)) ?_
        rintro _ _ ⟨rfl, rfl⟩
        refine RN.nil ?_
        refine ⟨({ p with lba := xorU p.lba (andN v 255 : Nat) }, zz), ⟨⟨⟨hp.ok.pay, xorU_ok _ _, hp.ok.index, hp.ok.total⟩, hp.epoch, hp.group⟩, hs, .inl rfl, hz1⟩, (LiveIs.cons rfl (LiveIs.cons rfl LiveIs.nil)), (Ent.pull_drop (is := [0, 1, 1]) rfl)⟩
      ·
        refine T.seq fun K6 hK6 => ?_
        refine T.region (l := [0, 1]) rfl ?_
        refine RN.qq rfl rfl rfl rfl (PRun.q (p_eql rfl rfl rfl)) ?_
        refine RN.qq rfl rfl rfl rfl (PRun.q (p_assign rfl (by conv => lhs; whnf))) ?_
        refine RN.nil ?_
        refine hK6 _ _ ?_
        first | refine T.cond_dec rfl (fun h19 => ?_) (fun h19 => ?_) | refine T.cond rfl (fun h19 => ?_) (fun h19 => ?_)
        ·
          refine T.region (l := [0, 1, 2, 3, 4, 5]) rfl ?_
          refine RN.qq rfl rfl rfl rfl (PRun.q (p_fieldAddr rfl fa_54_6 rfl)) ?_
          refine RN.qq rfl rfl rfl rfl (q_load rfl sc_48 rfl (i := 2) rfl rfl) ?_
          refine RN.qq rfl rfl rfl rfl (PRun.q (p_move rfl (by conv => lhs; whnf))) ?_
          refine RN.qq rfl rfl rfl rfl (PRun.q (p_xorU rfl rfl rfl)) ?_
          refine RN.qq rfl rfl rfl rfl (PRun.q (p_fieldAddr rfl fa_54_6 rfl)) ?_
          refine RN.EN rfl rfl rfl (e_store rfl ts_48 rfl (by conv => lhs; whnf) (by first | rfl | assumption) (i := 2) rfl (by rw [Pg.cells_length h32]; omega)) ?_
          rintro _ _ ⟨rfl, rfl⟩
          refine RN.nil ?_
          refine ⟨({ p with total := xorU p.total (andN v 255 : Nat) }, zz), ⟨⟨⟨hp.ok.pay, hp.ok.lba, hp.ok.index, xorU_ok _ _⟩, hp.epoch, hp.group⟩, hs, .inl rfl, hz1⟩, (LiveIs.cons rfl (LiveIs.cons rfl LiveIs.nil)), (Ent.pull_drop (is := [0, 1, 1]) rfl)⟩
        ·
          refine T.seq fun K7 hK7 => ?_
          refine T.region (l := [0, 1]) rfl ?_
          refine RN.qq rfl rfl rfl rfl (PRun.q (p_eql rfl rfl rfl)) ?_
          refine RN.qq rfl rfl rfl rfl (PRun.q (p_assign rfl (by conv => lhs; whnf))) ?_
          refine RN.nil ?_
          refine hK7 _ _ ?_
          first | refine T.cond_dec rfl (fun h26 => ?_) (fun h26 => ?_) | refine T.cond rfl (fun h26 => ?_) (fun h26 => ?_)
          ·
            refine T.region (l := [0, 1, 2, 3, 4, 5]) rfl ?_
            refine RN.qq rfl rfl rfl rfl (PRun.q (p_fieldAddr rfl fa_54_5 rfl)) ?_
            refine RN.qq rfl rfl rfl rfl (q_load rfl sc_48 rfl (i := 2) rfl rfl) ?_
            refine RN.qq rfl rfl rfl rfl (PRun.q (p_move rfl (by conv => lhs; whnf))) ?_
            refine RN.qq rfl rfl rfl rfl (PRun.q (p_xorU rfl rfl rfl)) ?_
            refine RN.qq rfl rfl rfl rfl (PRun.q (p_fieldAddr rfl fa_54_5 rfl)) ?_
            refine RN.EN rfl rfl rfl (e_store rfl ts_48 rfl (by conv => lhs; whnf) (by first | rfl | assumption) (i := 2) rfl (by rw [Pg.cells_length h32]; omega)) ?_
            rintro _ _ ⟨rfl, rfl⟩
            refine RN.nil ?_
            refine ⟨({ p with index := xorU p.index (andN v 255 : Nat) }, zz), ⟨⟨⟨hp.ok.pay, hp.ok.lba, xorU_ok _ _, hp.ok.total⟩, hp.epoch, hp.group⟩, hs, .inl rfl, hz1⟩, (LiveIs.cons rfl (LiveIs.cons rfl LiveIs.nil)), (Ent.pull_drop (is := [0, 1, 1]) rfl)⟩
          ·
            refine T.seq fun K8 hK8 => ?_
            refine T.region (l := [0, 1]) rfl ?_
            refine RN.qq rfl rfl rfl rfl (PRun.q (p_eql rfl rfl rfl)) ?_
            refine RN.qq rfl rfl rfl rfl (PRun.q (p_assign rfl (by conv => lhs; whnf))) ?_
            refine RN.nil ?_
            refine hK8 _ _ ?_
            first | refine T.cond_dec rfl (fun h33 => ?_) (fun h33 => ?_) | refine T.cond rfl (fun h33 => ?_) (fun h33 => ?_)
            ·
              refine T.regionD (z := 17) (Bs := [row b3 66 [iV o, iV i, iV f, iV v], row b2 54 p.cells]) (l := [(0, .pure), (1, .load), (2, .pure), (3, .pure), (4, .load), (5, .pure), (6, .pure), (7, .pure), (8, .load), (9, .pure), (10, .load), (11, .pure), (12, .pure), (13, .pure), (14, .pure), (15, .pure), (16, .pure), (17, .eff)]) mixed (by kernel_rfl) (by first | exact Ent.refl _ | exact Ent.pull_drop (is := [0, 0]) rfl | exact Ent.pull_drop (is := [0, 1]) rfl | exact Ent.pull_drop (is := [0, 2]) rfl | exact Ent.pull_drop (is := [0, 3]) rfl | exact Ent.pull_drop (is := [0, 4]) rfl | exact Ent.pull_drop (is := [0, 5]) rfl | exact Ent.pull_drop (is := [0, 6]) rfl | exact Ent.pull_drop (is := [1, 0]) rfl | exact Ent.pull_drop (is := [1, 1]) rfl | exact Ent.pull_drop (is := [1, 2]) rfl | exact Ent.pull_drop (is := [1, 3]) rfl | exact Ent.pull_drop (is := [1, 4]) rfl | exact Ent.pull_drop (is := [1, 5]) rfl | exact Ent.pull_drop (is := [1, 6]) rfl | exact Ent.pull_drop (is := [2, 0]) rfl | exact Ent.pull_drop (is := [2, 1]) rfl | exact Ent.pull_drop (is := [2, 2]) rfl | exact Ent.pull_drop (is := [2, 3]) rfl | exact Ent.pull_drop (is := [2, 4]) rfl | exact Ent.pull_drop (is := [2, 5]) rfl | exact Ent.pull_drop (is := [2, 6]) rfl | exact Ent.pull_drop (is := [3, 0]) rfl | exact Ent.pull_drop (is := [3, 1]) rfl | exact Ent.pull_drop (is := [3, 2]) rfl | exact Ent.pull_drop (is := [3, 3]) rfl | exact Ent.pull_drop (is := [3, 4]) rfl | exact Ent.pull_drop (is := [3, 5]) rfl | exact Ent.pull_drop (is := [3, 6]) rfl | exact Ent.pull_drop (is := [4, 0]) rfl | exact Ent.pull_drop (is := [4, 1]) rfl | exact Ent.pull_drop (is := [4, 2]) rfl | exact Ent.pull_drop (is := [4, 3]) rfl | exact Ent.pull_drop (is := [4, 4]) rfl | exact Ent.pull_drop (is := [4, 5]) rfl | exact Ent.pull_drop (is := [4, 6]) rfl | exact Ent.pull_drop (is := [5, 0]) rfl | exact Ent.pull_drop (is := [5, 1]) rfl | exact Ent.pull_drop (is := [5, 2]) rfl | exact Ent.pull_drop (is := [5, 3]) rfl | exact Ent.pull_drop (is := [5, 4]) rfl | exact Ent.pull_drop (is := [5, 5]) rfl | exact Ent.pull_drop (is := [5, 6]) rfl | exact Ent.pull_drop (is := [6, 0]) rfl | exact Ent.pull_drop (is := [6, 1]) rfl | exact Ent.pull_drop (is := [6, 2]) rfl | exact Ent.pull_drop (is := [6, 3]) rfl | exact Ent.pull_drop (is := [6, 4]) rfl | exact Ent.pull_drop (is := [6, 5]) rfl | exact Ent.pull_drop (is := [6, 6]) rfl | exact Ent.pull_drop (is := [7, 0]) rfl | exact Ent.pull_drop (is := [7, 1]) rfl | exact Ent.pull_drop (is := [7, 2]) rfl | exact Ent.pull_drop (is := [7, 3]) rfl | exact Ent.pull_drop (is := [7, 4]) rfl | exact Ent.pull_drop (is := [7, 5]) rfl | exact Ent.pull_drop (is := [7, 6]) rfl) ?_
              refine RD.pp rfl rfl rfl rfl (p_fieldAddr rfl fa_66_3 rfl) ?_
              refine RD.qq rfl rfl rfl rfl (by first | exact (q_load rfl sc_3 rfl (i := 0) rfl rfl) | exact (q_load rfl sc_3 rfl (i := 1) rfl rfl) | exact (q_load rfl sc_3 rfl (i := 2) rfl rfl) | exact (q_load rfl sc_3 rfl (i := 3) rfl rfl) | exact (q_load rfl sc_3 rfl (i := 4) rfl rfl)) (by first | exact Ent.refl _ | exact Ent.pull_drop (is := [0, 0]) rfl | exact Ent.pull_drop (is := [0, 1]) rfl | exact Ent.pull_drop (is := [0, 2]) rfl | exact Ent.pull_drop (is := [0, 3]) rfl | exact Ent.pull_drop (is := [0, 4]) rfl | exact Ent.pull_drop (is := [0, 5]) rfl | exact Ent.pull_drop (is := [0, 6]) rfl | exact Ent.pull_drop (is := [1, 0]) rfl | exact Ent.pull_drop (is := [1, 1]) rfl | exact Ent.pull_drop (is := [1, 2]) rfl | exact Ent.pull_drop (is := [1, 3]) rfl | exact Ent.pull_drop (is := [1, 4]) rfl | exact Ent.pull_drop (is := [1, 5]) rfl | exact Ent.pull_drop (is := [1, 6]) rfl | exact Ent.pull_drop (is := [2, 0]) rfl | exact Ent.pull_drop (is := [2, 1]) rfl | exact Ent.pull_drop (is := [2, 2]) rfl | exact Ent.pull_drop (is := [2, 3]) rfl | exact Ent.pull_drop (is := [2, 4]) rfl | exact Ent.pull_drop (is := [2, 5]) rfl | exact Ent.pull_drop (is := [2, 6]) rfl | exact Ent.pull_drop (is := [3, 0]) rfl | exact Ent.pull_drop (is := [3, 1]) rfl | exact Ent.pull_drop (is := [3, 2]) rfl | exact Ent.pull_drop (is := [3, 3]) rfl | exact Ent.pull_drop (is := [3, 4]) rfl | exact Ent.pull_drop (is := [3, 5]) rfl | exact Ent.pull_drop (is := [3, 6]) rfl | exact Ent.pull_drop (is := [4, 0]) rfl | exact Ent.pull_drop (is := [4, 1]) rfl | exact Ent.pull_drop (is := [4, 2]) rfl | exact Ent.pull_drop (is := [4, 3]) rfl | exact Ent.pull_drop (is := [4, 4]) rfl | exact Ent.pull_drop (is := [4, 5]) rfl | exact Ent.pull_drop (is := [4, 6]) rfl | exact Ent.pull_drop (is := [5, 0]) rfl | exact Ent.pull_drop (is := [5, 1]) rfl | exact Ent.pull_drop (is := [5, 2]) rfl | exact Ent.pull_drop (is := [5, 3]) rfl | exact Ent.pull_drop (is := [5, 4]) rfl | exact Ent.pull_drop (is := [5, 5]) rfl | exact Ent.pull_drop (is := [5, 6]) rfl | exact Ent.pull_drop (is := [6, 0]) rfl | exact Ent.pull_drop (is := [6, 1]) rfl | exact Ent.pull_drop (is := [6, 2]) rfl | exact Ent.pull_drop (is := [6, 3]) rfl | exact Ent.pull_drop (is := [6, 4]) rfl | exact Ent.pull_drop (is := [6, 5]) rfl | exact Ent.pull_drop (is := [6, 6]) rfl | exact Ent.pull_drop (is := [7, 0]) rfl | exact Ent.pull_drop (is := [7, 1]) rfl | exact Ent.pull_drop (is := [7, 2]) rfl | exact Ent.pull_drop (is := [7, 3]) rfl | exact Ent.pull_drop (is := [7, 4]) rfl | exact Ent.pull_drop (is := [7, 5]) rfl | exact Ent.pull_drop (is := [7, 6]) rfl) ?_
              refine RD.pp rfl rfl rfl rfl (p_andN (c := 31) (by omega) rfl rfl rfl) ?_
              refine RD.pp rfl rfl rfl rfl (p_fieldAddr rfl fa_66_3 rfl) ?_
              refine RD.qq rfl rfl rfl rfl (by first | exact (q_load rfl sc_3 rfl (i := 0) rfl rfl) | exact (q_load rfl sc_3 rfl (i := 1) rfl rfl) | exact (q_load rfl sc_3 rfl (i := 2) rfl rfl) | exact (q_load rfl sc_3 rfl (i := 3) rfl rfl) | exact (q_load rfl sc_3 rfl (i := 4) rfl rfl)) (by first | exact Ent.refl _ | exact Ent.pull_drop (is := [0, 0]) rfl | exact Ent.pull_drop (is := [0, 1]) rfl | exact Ent.pull_drop (is := [0, 2]) rfl | exact Ent.pull_drop (is := [0, 3]) rfl | exact Ent.pull_drop (is := [0, 4]) rfl | exact Ent.pull_drop (is := [0, 5]) rfl | exact Ent.pull_drop (is := [0, 6]) rfl | exact Ent.pull_drop (is := [1, 0]) rfl | exact Ent.pull_drop (is := [1, 1]) rfl | exact Ent.pull_drop (is := [1, 2]) rfl | exact Ent.pull_drop (is := [1, 3]) rfl | exact Ent.pull_drop (is := [1, 4]) rfl | exact Ent.pull_drop (is := [1, 5]) rfl | exact Ent.pull_drop (is := [1, 6]) rfl | exact Ent.pull_drop (is := [2, 0]) rfl | exact Ent.pull_drop (is := [2, 1]) rfl | exact Ent.pull_drop (is := [2, 2]) rfl | exact Ent.pull_drop (is := [2, 3]) rfl | exact Ent.pull_drop (is := [2, 4]) rfl | exact Ent.pull_drop (is := [2, 5]) rfl | exact Ent.pull_drop (is := [2, 6]) rfl | exact Ent.pull_drop (is := [3, 0]) rfl | exact Ent.pull_drop (is := [3, 1]) rfl | exact Ent.pull_drop (is := [3, 2]) rfl | exact Ent.pull_drop (is := [3, 3]) rfl | exact Ent.pull_drop (is := [3, 4]) rfl | exact Ent.pull_drop (is := [3, 5]) rfl | exact Ent.pull_drop (is := [3, 6]) rfl | exact Ent.pull_drop (is := [4, 0]) rfl | exact Ent.pull_drop (is := [4, 1]) rfl | exact Ent.pull_drop (is := [4, 2]) rfl | exact Ent.pull_drop (is := [4, 3]) rfl | exact Ent.pull_drop (is := [4, 4]) rfl | exact Ent.pull_drop (is := [4, 5]) rfl | exact Ent.pull_drop (is := [4, 6]) rfl | exact Ent.pull_drop (is := [5, 0]) rfl | exact Ent.pull_drop (is := [5, 1]) rfl | exact Ent.pull_drop (is := [5, 2]) rfl | exact Ent.pull_drop (is := [5, 3]) rfl | exact Ent.pull_drop (is := [5, 4]) rfl | exact Ent.pull_drop (is := [5, 5]) rfl | exact Ent.pull_drop (is := [5, 6]) rfl | exact Ent.pull_drop (is := [6, 0]) rfl | exact Ent.pull_drop (is := [6, 1]) rfl | exact Ent.pull_drop (is := [6, 2]) rfl | exact Ent.pull_drop (is := [6, 3]) rfl | exact Ent.pull_drop (is := [6, 4]) rfl | exact Ent.pull_drop (is := [6, 5]) rfl | exact Ent.pull_drop (is := [6, 6]) rfl | exact Ent.pull_drop (is := [7, 0]) rfl | exact Ent.pull_drop (is := [7, 1]) rfl | exact Ent.pull_drop (is := [7, 2]) rfl | exact Ent.pull_drop (is := [7, 3]) rfl | exact Ent.pull_drop (is := [7, 4]) rfl | exact Ent.pull_drop (is := [7, 5]) rfl | exact Ent.pull_drop (is := [7, 6]) rfl) ?_
              refine RD.pp rfl rfl rfl rfl (p_andN (c := 31) (by omega) rfl rfl rfl) ?_
              refine RD.pp rfl rfl rfl rfl (p_fieldAddr rfl fa_54_7 rfl) ?_
              refine RD.pp rfl rfl rfl rfl (p_indexAddr1N_a rfl Try.underlying52 ts_5 rfl rfl (by omega)) ?_
              refine RD.qq rfl rfl rfl rfl (q_load (v := u8V p.pay[andN v 31]) rfl sc_5 rfl (i := 1) rfl (pay_at h31)) (by first | exact Ent.refl _ | exact Ent.pull_drop (is := [1, 1]) rfl | exact Ent.pull_drop (is := [0, 0]) rfl) ?_
              refine RD.pp rfl rfl rfl rfl (p_fieldAddr rfl fa_66_3 rfl) ?_
              refine RD.qq rfl rfl rfl rfl (by first | exact (q_load rfl sc_3 rfl (i := 0) rfl rfl) | exact (q_load rfl sc_3 rfl (i := 1) rfl rfl) | exact (q_load rfl sc_3 rfl (i := 2) rfl rfl) | exact (q_load rfl sc_3 rfl (i := 3) rfl rfl) | exact (q_load rfl sc_3 rfl (i := 4) rfl rfl)) (by first | exact Ent.refl _ | exact Ent.pull_drop (is := [0, 0]) rfl | exact Ent.pull_drop (is := [0, 1]) rfl | exact Ent.pull_drop (is := [0, 2]) rfl | exact Ent.pull_drop (is := [0, 3]) rfl | exact Ent.pull_drop (is := [0, 4]) rfl | exact Ent.pull_drop (is := [0, 5]) rfl | exact Ent.pull_drop (is := [0, 6]) rfl | exact Ent.pull_drop (is := [1, 0]) rfl | exact Ent.pull_drop (is := [1, 1]) rfl | exact Ent.pull_drop (is := [1, 2]) rfl | exact Ent.pull_drop (is := [1, 3]) rfl | exact Ent.pull_drop (is := [1, 4]) rfl | exact Ent.pull_drop (is := [1, 5]) rfl | exact Ent.pull_drop (is := [1, 6]) rfl | exact Ent.pull_drop (is := [2, 0]) rfl | exact Ent.pull_drop (is := [2, 1]) rfl | exact Ent.pull_drop (is := [2, 2]) rfl | exact Ent.pull_drop (is := [2, 3]) rfl | exact Ent.pull_drop (is := [2, 4]) rfl | exact Ent.pull_drop (is := [2, 5]) rfl | exact Ent.pull_drop (is := [2, 6]) rfl | exact Ent.pull_drop (is := [3, 0]) rfl | exact Ent.pull_drop (is := [3, 1]) rfl | exact Ent.pull_drop (is := [3, 2]) rfl | exact Ent.pull_drop (is := [3, 3]) rfl | exact Ent.pull_drop (is := [3, 4]) rfl | exact Ent.pull_drop (is := [3, 5]) rfl | exact Ent.pull_drop (is := [3, 6]) rfl | exact Ent.pull_drop (is := [4, 0]) rfl | exact Ent.pull_drop (is := [4, 1]) rfl | exact Ent.pull_drop (is := [4, 2]) rfl | exact Ent.pull_drop (is := [4, 3]) rfl | exact Ent.pull_drop (is := [4, 4]) rfl | exact Ent.pull_drop (is := [4, 5]) rfl | exact Ent.pull_drop (is := [4, 6]) rfl | exact Ent.pull_drop (is := [5, 0]) rfl | exact Ent.pull_drop (is := [5, 1]) rfl | exact Ent.pull_drop (is := [5, 2]) rfl | exact Ent.pull_drop (is := [5, 3]) rfl | exact Ent.pull_drop (is := [5, 4]) rfl | exact Ent.pull_drop (is := [5, 5]) rfl | exact Ent.pull_drop (is := [5, 6]) rfl | exact Ent.pull_drop (is := [6, 0]) rfl | exact Ent.pull_drop (is := [6, 1]) rfl | exact Ent.pull_drop (is := [6, 2]) rfl | exact Ent.pull_drop (is := [6, 3]) rfl | exact Ent.pull_drop (is := [6, 4]) rfl | exact Ent.pull_drop (is := [6, 5]) rfl | exact Ent.pull_drop (is := [6, 6]) rfl | exact Ent.pull_drop (is := [7, 0]) rfl | exact Ent.pull_drop (is := [7, 1]) rfl | exact Ent.pull_drop (is := [7, 2]) rfl | exact Ent.pull_drop (is := [7, 3]) rfl | exact Ent.pull_drop (is := [7, 4]) rfl | exact Ent.pull_drop (is := [7, 5]) rfl | exact Ent.pull_drop (is := [7, 6]) rfl) ?_
              refine RD.pp rfl rfl rfl rfl (p_shr rfl rfl rfl (by omega)) ?_
              refine RD.pp rfl rfl rfl rfl (p_andN (c := 255) (by omega) rfl rfl rfl) ?_
              refine RD.pp rfl rfl rfl rfl (p_conv_u8 rfl Try.underlying3 Try.underlying5 rfl (by have := andN_le (a := v.fdiv (2 ^ (min (Int.toNat 5) (IntKind.bits .i64)))) (c := 255) (by omega); omega)) ?_
              refine RD.pp rfl rfl rfl rfl (p_xorB rfl rfl rfl) ?_
              generalize hX : xorB _ _ = X49
              refine RD.pp rfl rfl rfl rfl (p_fieldAddr rfl fa_54_7 rfl) ?_
              refine RD.pp rfl rfl rfl rfl (p_indexAddr1N_a rfl Try.underlying52 ts_5 rfl rfl (by omega)) ?_
              refine RD.EN rfl rfl rfl (e_store rfl ts_5 rfl (by conv => lhs; whnf) (by first | rfl | assumption) (i := 2) rfl (by rw [Pg.cells_length h32]; omega)) (fun _ _ _ => .inr rfl) ?_
              rintro _ _ ⟨rfl, rfl⟩
              simp only [setN]
              rw [pay_put]
              refine RD.nil ?_
              refine ⟨({ p with pay := p.pay.set (andN v 31) X49 }, zz), ⟨⟨⟨by show (p.pay.set _ _).length = 32; rw [List.length_set]; exact hp.ok.pay, hp.ok.lba, hp.ok.index, hp.ok.total⟩, hp.epoch, hp.group⟩, hs, .inl rfl, hz1⟩, (LiveIs.cons rfl (LiveIs.cons rfl LiveIs.nil)), (Ent.pull_drop (is := [0, 1, 1]) rfl)⟩
            ·
              refine T.seq fun K9 hK9 => ?_
              refine T.region (l := [0, 1]) rfl ?_
              refine RN.qq rfl rfl rfl rfl (PRun.q (p_eql rfl rfl rfl)) ?_
              refine RN.qq rfl rfl rfl rfl (PRun.q (p_assign rfl (by conv => lhs; whnf))) ?_
              refine RN.nil ?_
              refine hK9 _ _ ?_
              first | refine T.cond_dec rfl (fun h52 => ?_) (fun h52 => ?_) | refine T.cond rfl (fun h52 => ?_) (fun h52 => ?_)
              ·
                refine T.region (l := [0, 1, 2, 3, 4]) rfl ?_
                refine RN.qq rfl rfl rfl rfl (PRun.q (p_fieldAddr rfl fa_66_3 rfl)) ?_
                refine RN.qq rfl rfl rfl rfl (q_load rfl sc_3 rfl (i := 1) rfl rfl) ?_
                refine RN.qq rfl rfl rfl rfl (PRun.q (p_andN (c := 3) (by omega) rfl rfl rfl)) ?_
                refine RN.qq rfl rfl rfl rfl (PRun.q (p_fieldAddr rfl fa_54_0 rfl)) ?_
                refine RN.EN rfl rfl rfl (e_store rfl ts_3 rfl (by conv => lhs; whnf) (by first | rfl | assumption) (i := 2) rfl (by rw [Pg.cells_length h32]; omega)) ?_
                rintro _ _ ⟨rfl, rfl⟩
                refine RN.nil ?_
                refine ⟨({ p with kind := (andN v 3 : Nat) }, zz), ⟨⟨⟨hp.ok.pay, hp.ok.lba, hp.ok.index, hp.ok.total⟩, hp.epoch, hp.group⟩, hs, .inr h3, hz1⟩, (LiveIs.cons rfl (LiveIs.cons rfl LiveIs.nil)), (Ent.pull_drop (is := [0, 1, 1]) rfl)⟩
              ·
                refine T.seq fun K10 hK10 => ?_
                refine T.region (l := [0, 1]) rfl ?_
                refine RN.qq rfl rfl rfl rfl (PRun.q (p_eql rfl rfl rfl)) ?_
                refine RN.qq rfl rfl rfl rfl (PRun.q (p_assign rfl (by conv => lhs; whnf))) ?_
                refine RN.nil ?_
                refine hK10 _ _ ?_
                first | refine T.cond_dec rfl (fun h58 => ?_) (fun h58 => ?_) | refine T.cond rfl (fun h58 => ?_) (fun h58 => ?_)
                ·
                  refine T.region (l := [0, 1, 2]) rfl ?_
                  refine RN.qq rfl rfl rfl rfl (PRun.q (p_move rfl (by conv => lhs; whnf))) ?_
                  refine RN.qq rfl rfl rfl rfl (PRun.q (p_fieldAddr rfl fa_54_2 rfl)) ?_
                  refine RN.EN rfl rfl rfl (e_store rfl ts_48 rfl (by conv => lhs; whnf) (by first | rfl | assumption) (i := 2) rfl (by rw [Pg.cells_length h32]; omega)) ?_
                  rintro _ _ ⟨rfl, rfl⟩
                  refine RN.nil ?_
                  refine ⟨({ p with seq := (andN v 255 : Nat) }, zz), ⟨⟨⟨hp.ok.pay, hp.ok.lba, hp.ok.index, hp.ok.total⟩, hp.epoch, hp.group⟩, h255, .inl rfl, hz1⟩, (LiveIs.cons rfl (LiveIs.cons rfl LiveIs.nil)), (Ent.pull_drop (is := [0, 1, 1]) rfl)⟩
                ·
                  refine T.skip ?_
                  refine ⟨(p, zz), ⟨⟨⟨hp.ok.pay, hp.ok.lba, hp.ok.index, hp.ok.total⟩, hp.epoch, hp.group⟩, hs, .inl rfl, hz1⟩, (LiveIs.cons rfl (LiveIs.cons rfl LiveIs.nil)), (Ent.pull_drop (is := [0, 1, 1]) rfl)⟩
    ·
      rintro ⟨p2, zz⟩ e3 ⟨hp2, hs2, hk2, hz2⟩
      dsimp only at hp2 hs2 hk2 hz2 ⊢
      refine T.seq fun K11 hK11 => ?_
      refine T.region (l := [0, 1]) rfl ?_
      refine RN.qq rfl rfl rfl rfl (q_loadA (vs := p2.cells) rfl ag_54 ts_54 rfl (i := 1) rfl (by rw [Pg.cells_length hp2.ok.pay]; omega) (by rw [List.drop_zero, List.take_of_length_le (by rw [Pg.cells_length hp2.ok.pay]; omega)])) ?_
      refine RN.EN rfl rfl rfl (e_storeA rfl ts_54 rfl rfl (Pg.cells_length hp2.ok.pay) Pg.one (i := 0) rfl (by rw [hz2]; omega)) ?_
      rintro _ _ ⟨rfl, rfl⟩
      simp only [setN]
      rw [lay_pg hz2 hp2.ok.pay]
      refine RN.nil ?_
      refine hK11 _ _ ?_
      refine T.ret ?_
      refine bodyQ_ret [] (RetRun.cell rfl (load_var ag_54 ts_54 (i := 0) rfl (by rw [Pg.cells_length hp2.ok.pay]; omega) (by rw [List.drop_zero, List.take_of_length_le (by rw [Pg.cells_length hp2.ok.pay]; omega)])) RetRun.nil) ⟨p2, rfl, hp2, hs2, hk2, rfl⟩ (Ent.pull_drop (is := [2]) rfl)

end Go.Proofs.Yticfabhcfdmbjaa
namespace Go.Mo
open Go Go.Sl
theorem flat_len4 {α : Type} {f : α → List Value} (hf : ∀ x, (f x).length = 4) : ∀ (l : List α), ((l.map f).flatten).length = l.length * 4
  | [] => rfl
  | x :: l => by rw [List.map_cons, List.flatten_cons, List.length_append, hf, flat_len4 hf l, List.length_cons]; omega
theorem flat_drop4 {α : Type} {f : α → List Value} (hf : ∀ x, (f x).length = 4) : ∀ (l : List α) (i : Nat), ((l.map f).flatten).drop (i * 4) = ((l.drop i).map f).flatten
  | [], i => by simp
  | x :: l, 0 => by simp
  | x :: l, i + 1 => by
    rw [List.drop_succ_cons, ← flat_drop4 hf l i, List.map_cons, List.flatten_cons, List.drop_append, List.drop_eq_nil_of_le (by rw [hf]; omega), List.nil_append, hf, show (i + 1) * 4 - 4 = i * 4 from by omega]
theorem flat_get4 {α : Type} {f : α → List Value} (hf : ∀ x, (f x).length = 4) {l : List α} {i : Nat} (hi : i < l.length) : (((l.map f).flatten).drop (i * 4)).take 4 = f l[i] := by
  rw [flat_drop4 hf, List.drop_eq_getElem_cons hi, List.map_cons, List.flatten_cons, List.take_left' (hf _)]
theorem flat_at4 {α : Type} {f : α → List Value} (hf : ∀ x, (f x).length = 4) {l : List α} {i j : Nat} (hi : i < l.length) (hj : j < 4) : ((l.map f).flatten)[i * 4 + j]? = (f l[i])[j]? := by
  have h := flat_get4 hf hi
  rw [← h, List.getElem?_take, if_pos hj, List.getElem?_drop]
theorem flat_getR {α : Type} {f : α → List Value} (hf : ∀ x, (f x).length = 4) {l : List α} {rest : List Value} {i : Nat} (hi : i < l.length) : (((l.map f).flatten ++ rest).drop (0 + i * 4)).take 4 = f l[i] := by
  have hl := flat_len4 hf l
  rw [Nat.zero_add, List.drop_append_of_le_length (by omega), List.take_append_of_le_length (by rw [List.length_drop]; omega), flat_get4 hf hi]
theorem flat_atR {α : Type} {f : α → List Value} (hf : ∀ x, (f x).length = 4) {l : List α} {rest : List Value} {i j : Nat} (hi : i < l.length) (hj : j < 4) : ((l.map f).flatten ++ rest)[0 + i * 4 + j]? = (f l[i])[j]? := by
  have hl := flat_len4 hf l
  rw [Nat.zero_add, List.getElem?_append_left (by omega), flat_at4 hf hi hj]
/-- A pick. -/
structure Pk where
  o : Int
  i : Int
  f : Int
  v : Int
def Pk.cells (x : Pk) : List Value := [iV x.o, iV x.i, iV x.f, iV x.v]
theorem Pk.four (x : Pk) : x.cells.length = 4 := rfl
theorem Sm.four (x : Sm) : x.cells.length = 4 := rfl
theorem lay_four {z cs : List Value} (h : z.length = 4) (hc : cs.length = 4) : lay z 0 cs = cs := lay_full (by omega)
/-- What a stream that comes in is asked. -/
structure Sm.fit (A : Assn) (s : Sm) : Prop where
  epoch : U32 s.key.epoch
  group : U32 s.key.group
  view : Ent A (view 1 s.v s.bytes.length (s.bytes.map u8V))
  one : s.v.oneCell' = true
theorem Sm.ones {s : Sm} (h : s.v.oneCell' = true) : ∀ u ∈ s.cells, u.oneCell' = true := Sm.one h
theorem same_len {ra rb : List Sm} (h : ra.map (fun s => (s.key, s.bytes)) = rb.map (fun s => (s.key, s.bytes))) : ra.length = rb.length := by
  have := congrArg List.length h
  simpa using this
theorem same_at {ra rb : List Sm} (h : ra.map (fun s => (s.key, s.bytes)) = rb.map (fun s => (s.key, s.bytes))) {i : Nat} (ha : i < ra.length) (hb : i < rb.length) : ra[i].key = rb[i].key ∧ ra[i].bytes = rb[i].bytes := by
  have h1 : (ra.map (fun s => (s.key, s.bytes)))[i]? = (rb.map (fun s => (s.key, s.bytes)))[i]? := by rw [h]
  rw [List.getElem?_map, List.getElem?_map, List.getElem?_eq_getElem ha, List.getElem?_eq_getElem hb] at h1
  simp only [Option.map_some, Option.some.injEq, Prod.mk.injEq] at h1
  exact h1
theorem mem_twice {l : List Pg} (q : Pg) : q ∈ l ↔ q ∈ l ++ l := by simp
theorem mem_turn {l : List Pg} (k : Nat) (q : Pg) : q ∈ l ↔ q ∈ l.drop k ++ l.take k := by
  rw [List.mem_append, or_comm, ← List.mem_append, List.take_append_drop]
theorem src_sub {P : Program} {Hs : List Assn} {v : Value} {i l h el : Nat} {L : List Pg} (hn : nth Hs i = some (vec el 39 v L.length (pgs L))) (hp : ∀ p ∈ L, p.pay.length = 32) (hlh : l ≤ h) (hh : h ≤ L.length) :
    Src P Hs (subSl 39 v l h) (h - l) 39 (pgs ((L.drop l).take (h - l))) := by
  have e := pgs_part (rest := []) hp (a := l) (n := h - l) (by omega)
  rw [List.append_nil] at e
  have h1 : Ent (sep Hs) (sep [view 39 (subSl 39 v l h) (h - l) (pgs ((L.drop l).take (h - l)))]) := by
    rw [← e]
    exact ((Ent.perm (perm_nth hn)).trans (Ent.head _ _)).trans ((view_of_vec.trans (view_sub hlh hh)).trans Ent.one)
  refine Src.ent h1 (src_view (i := 0) rfl ?_)
  rw [pgs_length (fun p hp' => hp p (List.mem_of_mem_drop (List.mem_of_mem_take hp'))), List.length_take, List.length_drop]
  congr 1
  omega
theorem turn_eq {pg : List Pg} {k : Nat} : ([] ++ pgs ((pg.drop k).take (pg.length - k))) ++ pgs ((pg.drop 0).take (k - 0)) = pgs (pg.drop k ++ pg.take k) := by
  rw [List.nil_append, List.take_of_length_le (by rw [List.length_drop]; exact Nat.le_refl _), List.drop_zero, Nat.sub_zero, pgs_append]
theorem own_view {ra : List Sm} {i : Nat} (hi : i < ra.length) : Ent (sep (ra.map Sm.own)) (view 1 ra[i].v ra[i].bytes.length (ra[i].bytes.map u8V)) := by
  have h1 : nth (ra.map Sm.own) i = some (Sm.own ra[i]) := by rw [nth_map, nth_get hi]; rfl
  have h2 : Ent (sep (ra.map Sm.own)) (Sm.own ra[i]) := (Ent.perm (perm_nth h1)).trans (Ent.head _ _)
  exact h2.trans view_of_vec
end Go.Mo
