/-
  The walk of crc.More.
-/
import Derived.Test.YtbbgajjonodlfaaGreatProg
import Derived.Test.YtbbgajjonodlfaaGreatGEvCrc
set_option linter.unusedVariables false
set_option linter.unusedSimpArgs false
namespace Go.Proofs.YtbbgajjonodlfaaGreat
open Go Go.Sl Go.Proofs
set_option maxRecDepth 20000
open Go.Evl
theorem sc_byte : Scalar Tryz.prog 5 := isAggB_f (by kernel_rfl)
theorem sz_byte : TySize Tryz.prog 5 1 := szB_s (by kernel_rfl)
theorem More_ctr (c0 b off n cap TT : Nat) (cs : List Value) (l : List UInt8) (hc0 : c0 < 4294967296) (hl : l.length = n) (hn : n ≤ 9223372036854775807) (hcs : ∀ (i : Nat) (x : UInt8), l[i]? = some x → cs[off + i]? = some (u8V x)) : Ctr Tryz.prog 67 [.int .u32 (c0 : Int), slc b off n cap] [row b TT cs] (fun v Ps => v = .int .u32 ((crcOf c0 l : Nat) : Int) ∧ Ps = [row b TT cs]) := by
  refine Ctr.of_body Tryz.func67 rfl (by kernel_rfl) Tryz.ntmps67 rfl rfl (fun Fr => ?_)
  refine T.seq fun K1 hK1 => ?_
  refine T.region (l := [0]) rfl ?_
  refine RN.qq rfl rfl rfl rfl (PRun.q (p_assign rfl (by conv => lhs; whnf))) ?_
  refine RN.nil ?_
  refine hK1 _ _ ?_
  refine T.seq fun K2 hK2 => ?_
  refine T.region (l := [0, 1, 2]) rfl ?_
  refine RN.qq rfl rfl rfl rfl (PRun.q (p_move rfl (by conv => lhs; whnf))) ?_
  refine RN.qq rfl rfl rfl rfl (PRun.q (p_not32 rfl rfl hc0)) ?_
  refine RN.qq rfl rfl rfl rfl (PRun.q (p_assign rfl (by conv => lhs; whnf))) ?_
  refine RN.nil ?_
  refine hK2 _ _ ?_
  refine T.seq fun K3 hK3 => ?_
  refine T.seq fun K4 hK4 => ?_
  refine T.region (l := [0, 1, 2]) rfl ?_
  refine RN.qq rfl rfl rfl rfl (PRun.q (p_move rfl (by conv => lhs; whnf))) ?_
  refine RN.qq rfl rfl rfl rfl (PRun.q (p_len rfl Tryz.underlying57 rfl)) ?_
  refine RN.qq rfl rfl rfl rfl (PRun.q (p_move rfl (by conv => lhs; whnf))) ?_
  refine RN.nil ?_
  refine hK4 _ _ ?_
  refine T.block ?_
  refine T.loop (G := Nat × Nat) (fun ⟨k, c⟩ => k ≤ n ∧ c = crcRun (l.take k) (Nat.xor c0 4294967295) ∧ c < 4294967296) (fun ⟨k, c⟩ => [(5, .int .u32 (c : Int)), (11, slc b off n cap), (12, .int .i64 (n : Int)), (13, .int .i64 (k : Int))]) (fun ⟨k, c⟩ => [row b TT cs, Fr]) (fun ⟨k, c⟩ => n - k) (0, Nat.xor c0 4294967295) ⟨by omega, rfl, xor_lt hc0 (by decide)⟩ (LiveIs.cons rfl (LiveIs.cons rfl (LiveIs.cons rfl (LiveIs.cons rfl LiveIs.nil)))) (Ent.refl _) ?_
  rintro ⟨k, c⟩ e5 ⟨hkn, hc, hlt⟩
  dsimp only
  refine T.seq fun K6 hK6 => ?_
  refine T.region (l := [0]) rfl ?_
  refine RN.qq rfl rfl rfl rfl (PRun.q (p_lss rfl rfl rfl)) ?_
  refine RN.nil ?_
  refine hK6 _ _ ?_
  refine T.seq fun K7 hK7 => ?_
  first | refine T.cond_dec rfl (fun h14 => ?_) (fun h14 => ?_) | refine T.cond rfl (fun h14 => ?_) (fun h14 => ?_)
  ·
    have hk : k < n := by omega
    obtain ⟨x, hx⟩ : ∃ x, l[k]? = some x := ⟨l[k], List.getElem?_eq_getElem (by omega)⟩
    have hx32 : x.toNat < 4294967296 := by have := x.toNat_lt; omega
    refine T.skip ?_
    refine hK7 _ _ ?_
    refine T.seq fun K8 hK8 => ?_
    refine T.block ?_
    refine T.seq fun K9 hK9 => ?_
    refine T.region (l := [0, 1, 2]) rfl ?_
    refine RN.qq rfl rfl rfl rfl (PRun.q (p_indexAddr rfl Tryz.underlying57 sz_byte rfl rfl ⟨by omega, by omega⟩)) ?_
    refine RN.qq rfl rfl rfl rfl (q_load rfl sc_byte (show _ = ptr b (off + k) from by show ptr b _ = _; congr 1; omega) (i := 0) rfl (hcs k x hx)) ?_
    refine RN.qq rfl rfl rfl rfl (PRun.q (p_assign rfl (by conv => lhs; whnf))) ?_
    refine RN.nil ?_
    refine hK9 _ _ ?_
    refine T.seq fun K10 hK10 => ?_
    refine T.region (l := [0, 1, 2, 3, 4]) rfl ?_
    refine RN.qq rfl rfl rfl rfl (PRun.q (p_move rfl (by conv => lhs; whnf))) ?_
    refine RN.qq rfl rfl rfl rfl (PRun.q (p_move rfl (by conv => lhs; whnf))) ?_
    refine RN.qq rfl rfl rfl rfl (PRun.q (p_conv_u32 rfl Tryz.underlying5 Tryz.underlying107 rfl (by omega))) ?_
    refine RN.qq rfl rfl rfl rfl (PRun.q (p_xor32 rfl rfl rfl hlt hx32)) ?_
    refine RN.qq rfl rfl rfl rfl (PRun.q (p_assign rfl (by conv => lhs; whnf))) ?_
    refine RN.nil ?_
    refine hK10 _ _ ?_
    refine T.seq fun K11 hK11 => ?_
    refine T.region (l := [0]) rfl ?_
    refine RN.qq rfl rfl rfl rfl (PRun.q (p_move rfl (by conv => lhs; whnf))) ?_
    refine RN.nil ?_
    refine hK11 _ _ ?_
    refine T.block ?_
    refine T.loop (G := Nat × Nat) (fun ⟨j, d⟩ => j ≤ 8 ∧ d = bitsN j (Nat.xor c x.toNat) ∧ d < 4294967296) (fun ⟨j, d⟩ => [(5, .int .u32 (d : Int)), (11, slc b off n cap), (12, .int .i64 (n : Int)), (13, .int .i64 (k : Int)), (21, .int .i64 (j : Int))]) (fun ⟨j, d⟩ => [row b TT cs, Fr]) (fun ⟨j, d⟩ => 8 - j) (0, Nat.xor c x.toNat) ⟨by omega, rfl, xor_lt hlt hx32⟩ (LiveIs.cons rfl (LiveIs.cons rfl (LiveIs.cons rfl (LiveIs.cons rfl (LiveIs.cons rfl LiveIs.nil))))) (Ent.refl _) ?_
    rintro ⟨j, d⟩ e12 ⟨hj, hd, hlt2⟩
    dsimp only
    refine T.seq fun K13 hK13 => ?_
    refine T.region (l := [0]) rfl ?_
    refine RN.qq rfl rfl rfl rfl (PRun.q (p_lss rfl rfl rfl)) ?_
    refine RN.nil ?_
    refine hK13 _ _ ?_
    refine T.seq fun K14 hK14 => ?_
    first | refine T.cond_dec rfl (fun h22 => ?_) (fun h22 => ?_) | refine T.cond rfl (fun h22 => ?_) (fun h22 => ?_)
    ·
      refine T.skip ?_
      refine hK14 _ _ ?_
      refine T.seq fun K15 hK15 => ?_
      refine T.block ?_
      refine T.seq fun K16 hK16 => ?_
      refine T.region (l := [0, 1, 2]) rfl ?_
      refine RN.qq rfl rfl rfl rfl (PRun.q (p_move rfl (by conv => lhs; whnf))) ?_
      refine RN.qq rfl rfl rfl rfl (PRun.q (p_low32 rfl rfl rfl hlt2)) ?_
      refine RN.qq rfl rfl rfl rfl (PRun.q (p_assign rfl (by conv => lhs; whnf))) ?_
      refine RN.nil ?_
      refine hK16 _ _ ?_
      refine T.seq fun K17 hK17 => ?_
      refine T.region (l := [0, 1, 2]) rfl ?_
      refine RN.qq rfl rfl rfl rfl (PRun.q (p_move rfl (by conv => lhs; whnf))) ?_
      refine RN.qq rfl rfl rfl rfl (PRun.q (p_half32 rfl rfl rfl)) ?_
      refine RN.qq rfl rfl rfl rfl (PRun.q (p_assign rfl (by conv => lhs; whnf))) ?_
      refine RN.nil ?_
      refine hK17 _ _ ?_
      refine T.seq fun K18 hK18 => ?_
      refine T.region (l := [0, 1]) rfl ?_
      refine RN.qq rfl rfl rfl rfl (PRun.q (p_move rfl (by conv => lhs; whnf))) ?_
      refine RN.qq rfl rfl rfl rfl (PRun.q (p_eql rfl rfl rfl)) ?_
      refine RN.nil ?_
      refine hK18 _ _ ?_
      first | refine T.cond_dec rfl (fun h28 => ?_) (fun h28 => ?_) | refine T.cond rfl (fun h28 => ?_) (fun h28 => ?_)
      ·
        refine T.region (l := [0, 1, 2]) rfl ?_
        refine RN.qq rfl rfl rfl rfl (PRun.q (p_move rfl (by conv => lhs; whnf))) ?_
        refine RN.qq rfl rfl rfl rfl (PRun.q (p_xor32 rfl rfl rfl (by omega) (by decide))) ?_
        refine RN.qq rfl rfl rfl rfl (PRun.q (p_assign rfl (by conv => lhs; whnf))) ?_
        refine RN.nil ?_
        refine hK15 _ _ ?_
        refine T.region (l := [0, 1]) rfl ?_
        refine RN.qq rfl rfl rfl rfl (PRun.q (by first | exact (p_addN (b := 1) rfl rfl rfl (by omega)) | exact (p_add rfl rfl rfl (by omega)))) ?_
        refine RN.qq rfl rfl rfl rfl (PRun.q (p_move rfl (by conv => lhs; whnf))) ?_
        refine RN.nil ?_
        refine ⟨(j + 1, crcBit d), ⟨by omega, by rw [bitsN_succ, ← hd], crcBit_lt hlt2⟩, (by simp; omega), (LiveIs.cons (congrArg (fun z : Nat => Value.int .u32 (z : Int)) (bit_odd h28)) (LiveIs.cons rfl (LiveIs.cons rfl (LiveIs.cons rfl (LiveIs.cons rfl LiveIs.nil))))), Ent.refl _⟩
      ·
        refine T.skip ?_
        refine hK15 _ _ ?_
        refine T.region (l := [0, 1]) rfl ?_
        refine RN.qq rfl rfl rfl rfl (PRun.q (by first | exact (p_addN (b := 1) rfl rfl rfl (by omega)) | exact (p_add rfl rfl rfl (by omega)))) ?_
        refine RN.qq rfl rfl rfl rfl (PRun.q (p_move rfl (by conv => lhs; whnf))) ?_
        refine RN.nil ?_
        refine ⟨(j + 1, crcBit d), ⟨by omega, by rw [bitsN_succ, ← hd], crcBit_lt hlt2⟩, (by simp; omega), (LiveIs.cons (congrArg (fun z : Nat => Value.int .u32 (z : Int)) (bit_even h28)) (LiveIs.cons rfl (LiveIs.cons rfl (LiveIs.cons rfl (LiveIs.cons rfl LiveIs.nil))))), Ent.refl _⟩
    ·
      refine T.exit ?_
      refine Post.seq_x ?_
      refine Post.seq_x ?_
      refine Post.block_hit ?_
      refine hK8 _ _ ?_
      refine T.region (l := [0, 1]) rfl ?_
      refine RN.qq rfl rfl rfl rfl (PRun.q (by first | exact (p_addN (b := 1) rfl rfl rfl (by omega)) | exact (p_add rfl rfl rfl (by omega)))) ?_
      refine RN.qq rfl rfl rfl rfl (PRun.q (p_move rfl (by conv => lhs; whnf))) ?_
      refine RN.nil ?_
      refine ⟨(k + 1, crcByte c x), ⟨by omega, ?_, crcByte_lt hlt⟩, (by simp; omega), (LiveIs.cons (congrArg (fun z : Nat => Value.int .u32 (z : Int)) (show d = crcByte c x from by rw [hd, show j = 8 from by omega]; rfl)) (LiveIs.cons rfl (LiveIs.cons rfl (LiveIs.cons rfl LiveIs.nil)))), Ent.refl _⟩
      · rw [hc]; exact crcRun_take hx
  ·
    refine T.exit ?_
    refine Post.seq_x ?_
    refine Post.seq_x ?_
    refine Post.block_hit ?_
    refine hK3 _ _ ?_
    refine T.seq fun K19 hK19 => ?_
    refine T.region (l := [0, 1, 2]) rfl ?_
    refine RN.qq rfl rfl rfl rfl (PRun.q (p_move rfl (by conv => lhs; whnf))) ?_
    refine RN.qq rfl rfl rfl rfl (PRun.q (p_not32 rfl rfl hlt)) ?_
    refine RN.qq rfl rfl rfl rfl (PRun.q (p_assign rfl (by conv => lhs; whnf))) ?_
    refine RN.nil ?_
    refine hK19 _ _ ?_
    refine T.ret ?_
    refine bodyQ_ret [row b TT cs] (RetRun.tmp RetRun.nil) ⟨congrArg (fun z : Nat => Value.int .u32 (z : Int)) (show Nat.xor c 4294967295 = crcOf c0 l from by unfold crcOf; rw [hc, List.take_of_length_le (by omega)]), rfl⟩ (Ent.refl _)

theorem Fill_ctr (b off n cap TT : Nat) (cs : List Value) (x : Nat) (hlen : off + n ≤ cs.length) (hn : n ≤ 9223372036854775807) : Ctr Tryz.prog 160 [slc b off n cap, .int .u8 (x : Int)] [row b TT cs] (fun v Ps => v = .tuple #[] ∧ Ps = [row b TT (flN cs off n (Value.int .u8 (x : Int)))]) := by
  refine Ctr.of_body Tryz.func160 rfl (by kernel_rfl) Tryz.ntmps160 rfl rfl (fun Fr => ?_)
  refine T.seq fun K1 hK1 => ?_
  refine T.region (l := [0, 1, 2]) rfl ?_
  refine RN.qq rfl rfl rfl rfl (PRun.q (p_move rfl (by conv => lhs; whnf))) ?_
  refine RN.qq rfl rfl rfl rfl (PRun.q (p_len rfl Tryz.underlying57 rfl)) ?_
  refine RN.qq rfl rfl rfl rfl (PRun.q (p_move rfl (by conv => lhs; whnf))) ?_
  refine RN.nil ?_
  refine hK1 _ _ ?_
  refine T.block ?_
  refine T.loop (G := Nat) (fun k => k ≤ n) (fun k => [(0, slc b off n cap), (1, (Value.int .u8 (x : Int))), (6, .int .i64 (n : Int)), (7, .int .i64 (k : Int))]) (fun k => [row b TT (flN cs off k (Value.int .u8 (x : Int))), Fr]) (fun k => n - k) 0 (by omega) (LiveIs.cons rfl (LiveIs.cons rfl (LiveIs.cons rfl (LiveIs.cons rfl LiveIs.nil)))) (Ent.of_eq (by rw [flN_zero]; rfl)) ?_
  rintro k e2 hkn
  refine T.seq fun K3 hK3 => ?_
  refine T.region (l := [0]) rfl ?_
  refine RN.qq rfl rfl rfl rfl (PRun.q (p_lss rfl rfl rfl)) ?_
  refine RN.nil ?_
  refine hK3 _ _ ?_
  refine T.seq fun K4 hK4 => ?_
  first | refine T.cond_dec rfl (fun h8 => ?_) (fun h8 => ?_) | refine T.cond rfl (fun h8 => ?_) (fun h8 => ?_)
  ·
    have hk : k < n := by omega
    refine T.skip ?_
    refine hK4 _ _ ?_
    refine T.seq fun K5 hK5 => ?_
    refine T.block ?_
    refine T.seq fun K6 hK6 => ?_
    refine T.region (l := [0, 1]) rfl ?_
    refine RN.qq rfl rfl rfl rfl (PRun.q (p_move rfl (by conv => lhs; whnf))) ?_
    refine RN.qq rfl rfl rfl rfl (PRun.q (p_assign rfl (by conv => lhs; whnf))) ?_
    refine RN.nil ?_
    refine hK6 _ _ ?_
    refine T.region (l := [0, 1, 2, 3, 4]) rfl ?_
    refine RN.qq rfl rfl rfl rfl (PRun.q (p_move rfl (by conv => lhs; whnf))) ?_
    refine RN.qq rfl rfl rfl rfl (PRun.q (p_move rfl (by conv => lhs; whnf))) ?_
    refine RN.qq rfl rfl rfl rfl (PRun.q (p_move rfl (by conv => lhs; whnf))) ?_
    refine RN.qq rfl rfl rfl rfl (PRun.q (p_indexAddr rfl Tryz.underlying57 sz_byte rfl rfl ⟨by omega, by omega⟩)) ?_
    refine RN.EN rfl rfl rfl (e_store rfl sz_byte (show _ = ptr b (off + k) from by show ptr b _ = _; congr 1; omega) (show _ = (Value.int .u8 (x : Int)) from rfl) rfl (i := 0) rfl (by rw [flN_len (by omega)]; omega)) ?_
    rintro _ _ ⟨rfl, rfl⟩
    dsimp only [setN]
    rw [flN_set (by omega)]
    refine RN.nil ?_
    refine hK5 _ _ ?_
    refine T.region (l := [0, 1]) rfl ?_
    refine RN.qq rfl rfl rfl rfl (PRun.q (by first | exact (p_addN (b := 1) rfl rfl rfl (by omega)) | exact (p_add rfl rfl rfl (by omega)))) ?_
    refine RN.qq rfl rfl rfl rfl (PRun.q (p_move rfl (by conv => lhs; whnf))) ?_
    refine RN.nil ?_
    refine ⟨(k + 1), (by omega), (by omega), (LiveIs.cons rfl (LiveIs.cons rfl (LiveIs.cons rfl (LiveIs.cons rfl LiveIs.nil)))), Ent.refl _⟩
  ·
    refine T.exit ?_
    refine Post.seq_x ?_
    refine Post.seq_x ?_
    refine Post.block_hit ?_
    have hkn2 : k = n := by omega
    subst hkn2
    refine bodyQ_end [row b TT (flN cs off k (Value.int .u8 (x : Int)))] RetRun.nil ⟨rfl, rfl⟩ (Ent.refl _)


theorem more_ok : CrcSpec Tryz.prog 67 := fun c b off n cap TT cs l h1 h2 h3 h4 => More_ctr c b off n cap TT cs l h1 h2 h3 h4
theorem fillN_ok : FillSpec Tryz.prog 160 := fun b off n cap TT cs x h1 h2 => Fill_ctr b off n cap TT cs x h1 h2
end Go.Proofs.YtbbgajjonodlfaaGreat
