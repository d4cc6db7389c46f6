/-
 The reference: walked.
-/
import Derived.Test.YtbbgajjonodlfaaGreatGYvV1
import Derived.Test.YtbbgajjonodlfaaGreatGModelVo
import Derived.Test.YtbbgajjonodlfaaGreatGSl26
import Derived.Test.YtbbgajjonodlfaaGreatGYvM1
set_option linter.unusedVariables false
set_option linter.unusedSimpArgs false
namespace Go.Proofs.YtbbgajjonodlfaaGreat
open Go Go.Sl Go.Proofs
set_option maxRecDepth 20000
open Go.Mo Go.Evl
theorem bit_spec (c b : Nat) (hc : c < 4294967296) (hb : b < 4294967296) : Ctr Tryz.prog 69 [.int .u32 (c : Int), .int .u32 (b : Int)] [] (fun v Ps => v = .int .u32 ((crcStep c b : Nat) : Int) ∧ Ps = []) := by
 refine Ctr.of_body Tryz.func69 rfl (by kernel_rfl) Tryz.ntmps69 rfl rfl (fun Fr => ?_)
 refine T.seq fun K1 hK1 => ?_
 refine T.region (l := [0]) rfl ?_
 refine RN.a rfl ?_
 refine RN.nil ?_
 refine hK1 _ _ ?_
 refine T.seq fun K2 hK2 => ?_
 refine T.seq fun K3 hK3 => ?_
 refine T.region (l := [0, 1, 2, 3, 4]) rfl ?_
 refine RN.m rfl ?_
 refine RN.m rfl ?_
 refine RN.p rfl (p_xor32 rfl rfl rfl hc hb) ?_
 refine RN.p rfl (p_low32 rfl rfl rfl (xor_lt hc hb)) ?_
 refine RN.p rfl (p_eql rfl rfl rfl) ?_
 refine RN.nil ?_
 refine hK3 _ _ ?_
 refine T.cond_dec rfl (fun h9 => ?_) (fun h9 => ?_)
 ·
  refine T.seq fun K4 hK4 => ?_
  refine T.region (l := [0, 1, 2, 3]) rfl ?_
  refine RN.m rfl ?_
  refine RN.p rfl (p_half32 rfl rfl rfl) ?_
  refine RN.p rfl (p_xor32 rfl rfl rfl (by omega) (by decide)) ?_
  refine RN.a rfl ?_
  refine RN.nil ?_
  refine hK4 _ _ ?_
  refine T.ret ?_
  refine Post.seq_r ?_
  refine bodyQ_ret [] (RetRun.tmp RetRun.nil) ⟨congrArg (fun z : Nat => Value.int .u32 (z : Int)) (show Nat.xor (c / 2) 3988292384 = crcStep c b by unfold crcStep; rw [if_pos (by omega)]), rfl⟩ (Ent.refl _)
 ·
  refine T.skip ?_
  refine hK2 _ _ ?_
  refine T.seq fun K5 hK5 => ?_
  refine T.region (l := [0, 1, 2]) rfl ?_
  refine RN.m rfl ?_
  refine RN.p rfl (p_half32 rfl rfl rfl) ?_
  refine RN.a rfl ?_
  refine RN.nil ?_
  refine hK5 _ _ ?_
  refine T.ret ?_
  refine bodyQ_ret [] (RetRun.tmp RetRun.nil) ⟨congrArg (fun z : Nat => Value.int .u32 (z : Int)) (show c / 2 = crcStep c b by unfold crcStep; rw [if_neg (by omega)]), rfl⟩ (Ent.refl _)

theorem RMore_spec (c0 b off n cap TT : Nat) (cs : List Value) (l : List UInt8) (hc0 : c0 < 4294967296) (hl : l.length = n) (hn : n ≤ 9223372036854775807) (hcs : ∀ (i : Nat) (x : UInt8), l[i]? = some x → cs[off + i]? = some (u8V x)) : Ctr Tryz.prog 68 [.int .u32 (c0 : Int), slc b off n cap] [row b TT cs] (fun v Ps => v = .int .u32 ((crcOf c0 l : Nat) : Int) ∧ Ps = [row b TT cs]) := by
 refine Ctr.of_body Tryz.func68 rfl (by kernel_rfl) Tryz.ntmps68 rfl rfl (fun Fr => ?_)
 refine T.seq fun K1 hK1 => ?_
 refine T.region (l := [0]) rfl ?_
 refine RN.a rfl ?_
 refine RN.nil ?_
 refine hK1 _ _ ?_
 refine T.seq fun K2 hK2 => ?_
 refine T.region (l := [0, 1, 2]) rfl ?_
 refine RN.m rfl ?_
 refine RN.p rfl (p_xor32 (b := 4294967295) rfl rfl rfl hc0 (by decide)) ?_
 refine RN.a rfl ?_
 refine RN.nil ?_
 refine hK2 _ _ ?_
 refine T.seq fun K3 hK3 => ?_
 refine T.seq fun K4 hK4 => ?_
 refine T.region (l := [0]) rfl ?_
 refine RN.a rfl ?_
 refine RN.nil ?_
 refine hK4 _ _ ?_
 refine T.block ?_
 refine T.loop (G := Nat × Nat) (fun ⟨i, c⟩ => i ≤ n ∧ c = crcRun (l.take i) (Nat.xor c0 4294967295) ∧ c < 4294967296) (fun ⟨i, c⟩ => [(1, slc b off n cap), (5, .int .u32 (c : Int)), (6, intV i)]) (fun ⟨i, c⟩ => [row b TT cs, Fr]) (fun ⟨i, c⟩ => n - i) (0, Nat.xor c0 4294967295) ⟨Nat.zero_le _, rfl, xor_lt hc0 (by decide)⟩ (LiveIs.cons rfl (LiveIs.cons rfl (LiveIs.cons rfl LiveIs.nil))) (Ent.refl _) ?_
 rintro ⟨i, c⟩ e5 ⟨hin, hc, hclt⟩
 dsimp only
 refine T.seq fun K6 hK6 => ?_
 refine T.seq fun K7 hK7 => ?_
 refine T.region (l := [0, 1, 2, 3]) rfl ?_
 refine RN.m rfl ?_
 refine RN.m rfl ?_
 refine RN.p rfl (p_len rfl Tryz.underlying57 rfl) ?_
 refine RN.p rfl (p_lss rfl rfl rfl) ?_
 refine RN.nil ?_
 refine hK7 _ _ ?_
 refine T.cond_dec rfl (fun h13 => ?_) (fun h13 => ?_)
 ·
  have hil : i < l.length := by omega
  have hx := l[i].toNat_lt
  refine T.skip ?_
  refine hK6 _ _ ?_
  refine T.seq fun K8 hK8 => ?_
  refine T.block ?_
  refine T.seq fun K9 hK9 => ?_
  refine T.region (l := [0]) rfl ?_
  refine RN.a rfl ?_
  refine RN.nil ?_
  refine hK9 _ _ ?_
  refine T.block ?_
  refine T.loop (G := Nat × Nat) (fun ⟨k, d⟩ => k ≤ 8 ∧ Nat.xor d (l[i].toNat / 2 ^ k) = bitsN k (Nat.xor c l[i].toNat) ∧ d < 4294967296) (fun ⟨k, d⟩ => [(1, slc b off n cap), (5, .int .u32 (d : Int)), (6, intV i), (7, intV k)]) (fun ⟨k, d⟩ => [row b TT cs, Fr]) (fun ⟨k, d⟩ => 8 - k) (0, c) ⟨Nat.zero_le _, by rw [Nat.pow_zero, Nat.div_one]; rfl, hclt⟩ (LiveIs.cons rfl (LiveIs.cons rfl (LiveIs.cons rfl (LiveIs.cons rfl LiveIs.nil)))) (Ent.refl _) ?_
  rintro ⟨k, d⟩ e10 ⟨hk8, hd, hdlt⟩
  dsimp only
  refine T.seq fun K11 hK11 => ?_
  refine T.seq fun K12 hK12 => ?_
  refine T.region (l := [0, 1]) rfl ?_
  refine RN.m rfl ?_
  refine RN.p rfl (p_lss rfl rfl rfl) ?_
  refine RN.nil ?_
  refine hK12 _ _ ?_
  refine T.cond_dec rfl (fun h17 => ?_) (fun h17 => ?_)
  ·
   have hsh : l[i].toNat >>> k = l[i].toNat / 2 ^ k := Nat.shiftRight_eq_div_pow _ _
   have hsl : l[i].toNat >>> k ≤ 255 := by rw [hsh]; exact Nat.le_trans (Nat.div_le_self _ _) (by omega)
   refine T.skip ?_
   refine hK11 _ _ ?_
   refine T.seq fun K13 hK13 => ?_
   refine T.block ?_
   refine T.region (l := [0, 1, 2, 3, 4, 5, 6, 7, 8, 9, 10, 11]) rfl ?_
   refine RN.m rfl ?_
   refine RN.m rfl ?_
   refine RN.m rfl ?_
   refine RN.p rfl (by exact (p_indexAddr1N rfl Tryz.underlying57 ts_5 rfl rfl (by omega))) ?_
   refine RN.u rfl (by exact (q_load rfl sc_5 rfl (i := 0) rfl (hcs i l[i] (List.getElem?_eq_getElem hil)))) ?_
   refine RN.m rfl ?_
   refine RN.p rfl (p_conv_u64 rfl Tryz.underlying3 Tryz.underlying125 rfl (by omega)) ?_
   refine RN.p rfl (p_shrN (a := l[i].toNat) (b := k) rfl rfl rfl (by show k ≤ 8; omega)) ?_
   refine RN.p rfl (p_conv_u32 rfl Tryz.underlying5 Tryz.underlying107 rfl (by have h0 : 0 ≤ ((l[i].toNat >>> k : Nat) : Int) := Int.natCast_nonneg _; have h1 : ((l[i].toNat >>> k : Nat) : Int) ≤ 255 := Int.ofNat_le.2 hsl; exact ⟨h0, Int.le_trans h1 (by decide)⟩)) ?_
   refine RN.p rfl (p_low32 rfl rfl rfl (by omega)) ?_
   refine RN.C [] rfl rfl rfl rfl (c_call rfl rfl) (bit_spec d (l[i].toNat >>> k % 2) hdlt (by omega)) rfl ?_
   rintro _ _ ⟨rfl, rfl⟩
   refine RN.a rfl ?_
   refine RN.nil ?_
   refine hK13 _ _ ?_
   refine T.region (l := [0, 1, 2]) rfl ?_
   refine RN.m rfl ?_
   refine RN.p rfl (by exact (p_addN (b := 1) rfl rfl rfl (by omega))) ?_
   refine RN.a rfl ?_
   refine RN.nil ?_
   refine ⟨(k + 1, crcStep d (l[i].toNat >>> k % 2)), ⟨by omega, by rw [bitsN_succ, ← hd, Nat.pow_succ, ← Nat.div_div_eq_div_mul, hsh]; exact crc_step _ _, crcStep_lt hdlt⟩, (by simp; omega), (LiveIs.cons rfl (LiveIs.cons rfl (LiveIs.cons rfl (LiveIs.cons rfl LiveIs.nil)))), Ent.refl _⟩
  ·
   obtain rfl : k = 8 := by omega
   have hd8 : d = crcByte c l[i] := crc_last hx hd
   refine T.exit ?_
   refine Post.seq_x ?_
   refine Post.seq_x ?_
   refine Post.block_hit ?_
   refine hK8 _ _ ?_
   refine T.region (l := [0, 1, 2]) rfl ?_
   refine RN.m rfl ?_
   refine RN.p rfl (by exact (p_addN (b := 1) rfl rfl rfl (by omega))) ?_
   refine RN.a rfl ?_
   refine RN.nil ?_
   refine ⟨(i + 1, d), ⟨by omega, by rw [hd8, hc]; exact crcRun_take (List.getElem?_eq_getElem hil), hdlt⟩, (by simp; omega), (LiveIs.cons rfl (LiveIs.cons rfl (LiveIs.cons rfl LiveIs.nil))), Ent.refl _⟩
 ·
  obtain rfl : i = n := by omega
  refine T.exit ?_
  refine Post.seq_x ?_
  refine Post.seq_x ?_
  refine Post.block_hit ?_
  refine hK3 _ _ ?_
  refine T.seq fun K14 hK14 => ?_
  refine T.region (l := [0, 1, 2]) rfl ?_
  refine RN.m rfl ?_
  refine RN.p rfl (p_xor32 (b := 4294967295) rfl rfl rfl hclt (by decide)) ?_
  refine RN.a rfl ?_
  refine RN.nil ?_
  refine hK14 _ _ ?_
  refine T.ret ?_
  refine bodyQ_ret [row b TT cs] (RetRun.tmp RetRun.nil) ⟨congrArg (fun z : Nat => Value.int .u32 (z : Int)) (show Nat.xor c 4294967295 = crcOf c0 l by unfold crcOf; rw [hc, List.take_of_length_le (by omega)]), rfl⟩ (Ent.refl _)

theorem RSum_spec (b off n cap TT : Nat) (cs : List Value) (l : List UInt8) (hl : l.length = n) (hn : n ≤ 9223372036854775807) (hcs : ∀ (i : Nat) (x : UInt8), l[i]? = some x → cs[off + i]? = some (u8V x)) : Ctr Tryz.prog 66 [slc b off n cap] [row b TT cs] (fun v Ps => v = .int .u32 ((crcOf 0 l : Nat) : Int) ∧ Ps = [row b TT cs]) := by
 refine Ctr.of_body Tryz.func66 rfl (by kernel_rfl) Tryz.ntmps66 rfl rfl (fun Fr => ?_)
 refine T.seq fun K1 hK1 => ?_
 refine T.region (l := [0]) rfl ?_
 refine RN.a rfl ?_
 refine RN.nil ?_
 refine hK1 _ _ ?_
 refine T.seq fun K2 hK2 => ?_
 refine T.region (l := [0, 1, 2]) rfl ?_
 refine RN.m rfl ?_
 refine RN.C [0] rfl rfl rfl rfl (c_call rfl rfl) (RMore_spec 0 b off n cap TT cs l (by decide) hl hn hcs) rfl ?_
 rintro _ _ ⟨rfl, rfl⟩
 refine RN.a rfl ?_
 refine RN.nil ?_
 refine hK2 _ _ ?_
 refine T.ret ?_
 refine bodyQ_ret [row b TT cs] (RetRun.tmp RetRun.nil) ⟨rfl, rfl⟩ (Ent.refl _)

theorem noughts_spec (n : Nat) (hn : n ≤ 65536) : Ctr Tryz.prog 64 [intV n] [] (fun v Ps => v = strV (List.replicate n 0) ∧ Ps = []) := by
 refine Ctr.of_body Tryz.func64 rfl (by kernel_rfl) Tryz.ntmps64 rfl rfl (fun Fr => ?_)
 refine T.seq fun K1 hK1 => ?_
 refine T.region (l := [0]) rfl ?_
 refine RN.a rfl ?_
 refine RN.nil ?_
 refine hK1 _ _ ?_
 refine T.seq fun K2 hK2 => ?_
 refine T.region (l := [0, 1, 2, 3]) rfl ?_
 refine RN.m rfl ?_
 refine RN.E rfl rfl rfl rfl (by exact (e_makeSliceN rfl Tryz.underlying57 ti_5 rfl rfl rfl (by omega))) ?_
 rintro _ _ ⟨b4, rfl, rfl⟩
 refine RN.u rfl (q_bytes_str rfl Tryz.underlying57 Tryz.underlying5 Tryz.underlying9 rfl (i := 0) rfl (l := List.replicate n 0) (by simp [zeros]) (by rw [List.drop_zero, List.take_of_length_le (by simp [zeros]), List.map_replicate]; simp [zeros])) ?_
 refine RN.a rfl ?_
 refine RN.nil ?_
 refine hK2 _ _ ?_
 refine T.ret ?_
 refine bodyQ_ret [] (RetRun.tmp RetRun.nil) ⟨rfl, rfl⟩ (Ent.drop _ _)

theorem number_spec (v : Nat) (hv : v < 4294967296) : Ctr Tryz.prog 65 [.int .u32 (v : Int)] [] (fun r Ps => r = strV (leN v 4) ∧ Ps = []) := by
 refine Ctr.of_body Tryz.func65 rfl (by kernel_rfl) Tryz.ntmps65 rfl rfl (fun Fr => ?_)
 refine T.seq fun K1 hK1 => ?_
 refine T.region (l := [0]) rfl ?_
 refine RN.a rfl ?_
 refine RN.nil ?_
 refine hK1 _ _ ?_
 refine T.seq fun K2 hK2 => ?_
 refine T.region (l := [0, 1, 2, 3, 4, 5, 6, 7, 8, 9, 10, 11, 12, 13]) rfl ?_
 refine RN.m rfl ?_
 refine RN.p rfl (p_convB rfl Tryz.underlying107 Tryz.underlying5 rfl) ?_
 refine RN.m rfl ?_
 refine RN.p rfl (p_shrN (b := 8) rfl rfl rfl (by decide)) ?_
 refine RN.p rfl (p_convB rfl Tryz.underlying107 Tryz.underlying5 rfl) ?_
 refine RN.m rfl ?_
 refine RN.p rfl (p_shrN (b := 16) rfl rfl rfl (by decide)) ?_
 refine RN.p rfl (p_convB rfl Tryz.underlying107 Tryz.underlying5 rfl) ?_
 refine RN.m rfl ?_
 refine RN.p rfl (p_shrN (b := 24) rfl rfl rfl (by decide)) ?_
 refine RN.p rfl (p_convB rfl Tryz.underlying107 Tryz.underlying5 rfl) ?_
 refine RN.E rfl rfl rfl rfl (e_buildSlice rfl Tryz.underlying57 ti_5 rfl (by decide) rfl (by simp)) ?_
 rintro _ _ ⟨b14, rfl, rfl⟩
 refine RN.u rfl (q_bytes_str rfl Tryz.underlying57 Tryz.underlying5 Tryz.underlying9 rfl (i := 0) rfl (l := leN v 4) (by show 0 + 4 ≤ 4; decide) rfl) ?_
 refine RN.a rfl ?_
 refine RN.nil ?_
 refine hK2 _ _ ?_
 refine T.ret ?_
 refine bodyQ_ret [] (RetRun.tmp RetRun.nil) ⟨rfl, rfl⟩ (Ent.drop _ _)

end Go.Proofs.YtbbgajjonodlfaaGreat
namespace Go.Proofs.YtbbgajjonodlfaaGreat
open Go Go.Sl Go.Proofs
set_option maxRecDepth 20000
open Go.Mo
theorem Cap_spec (l : List UInt8) (hl : l.length ≤ 1099511627776) : Ctr Tryz.prog 28 [strV l] [] (fun v Ps => v = intV (l.length / 32) ∧ Ps = []) := by
 refine Ctr.of_body Tryz.func28 rfl (by kernel_rfl) Tryz.ntmps28 rfl rfl (fun Fr => ?_)
 refine T.seq fun K1 hK1 => ?_
 refine T.region (l := [0]) rfl ?_
 refine RN.a rfl ?_
 refine RN.nil ?_
 refine hK1 _ _ ?_
 refine T.seq fun K2 hK2 => ?_
 refine T.region (l := [0, 1, 2, 3]) rfl ?_
 refine RN.m rfl ?_
 refine RN.p rfl (p_len_s rfl Tryz.underlying9 rfl) ?_
 refine RN.p rfl (by exact (p_quoN (b := 32) rfl rfl rfl (by omega))) ?_
 refine RN.a rfl ?_
 refine RN.nil ?_
 refine hK2 _ _ ?_
 refine T.ret ?_
 refine bodyQ_ret [] (RetRun.tmp RetRun.nil) ⟨rfl, rfl⟩ (Ent.refl _)

theorem RNew_spec (n : Nat) (hl : n ≤ 65536) : Ctr Tryz.prog 10 [intV n] [] (fun v Ps => v = strV (List.replicate (n * 32) 0) ∧ Ps = []) := by
 refine Ctr.of_body Tryz.func10 rfl (by kernel_rfl) Tryz.ntmps10 rfl rfl (fun Fr => ?_)
 refine T.seq fun K1 hK1 => ?_
 refine T.region (l := [0]) rfl ?_
 refine RN.a rfl ?_
 refine RN.nil ?_
 refine hK1 _ _ ?_
 refine T.seq fun K2 hK2 => ?_
 refine T.region (l := [0, 1, 2, 3, 4]) rfl ?_
 refine RN.m rfl ?_
 refine RN.p rfl (by exact (p_mulN (b := 32) rfl rfl rfl (by omega))) ?_
 refine RN.E rfl rfl rfl rfl (by exact (e_makeSliceN rfl Tryz.underlying57 ti_5 rfl rfl rfl (by omega))) ?_
 rintro _ _ ⟨b5, rfl, rfl⟩
 refine RN.u rfl (q_bytes_str rfl Tryz.underlying57 Tryz.underlying5 Tryz.underlying9 rfl (i := 0) rfl (l := List.replicate (n * 32) 0) (by simp [zeros]) (by rw [List.drop_zero, List.take_of_length_le (by simp [zeros]), List.map_replicate]; simp [zeros])) ?_
 refine RN.a rfl ?_
 refine RN.nil ?_
 refine hK2 _ _ ?_
 refine T.ret ?_
 refine bodyQ_ret [] (RetRun.tmp RetRun.nil) ⟨rfl, rfl⟩ (Ent.drop _ _)

theorem RRead_spec (l : List UInt8) (lba n : Int) (hl : l.length ≤ 1099511627776) : Ctr Tryz.prog 41 [strV l, .int .i64 lba, .int .i64 n] [] (fun v Ps => v = .tuple #[strV (if Right (l.length / 32 : Nat) lba n then (l.drop (lba.toNat * 32)).take (n.toNat * 32) else []), .bool (decide (Right (l.length / 32 : Nat) lba n))] ∧ Ps = []) := by
 refine Ctr.of_body Tryz.func41 rfl (by kernel_rfl) Tryz.ntmps41 rfl rfl (fun Fr => ?_)
 refine T.seq fun K1 hK1 => ?_
 refine T.region (l := [0, 1]) rfl ?_
 refine RN.a rfl ?_
 refine RN.a rfl ?_
 refine RN.nil ?_
 refine hK1 _ _ ?_
 refine T.seq fun K2 hK2 => ?_
 refine T.seq fun K3 hK3 => ?_
 refine T.region (l := [0, 1, 2, 3, 4, 5]) rfl ?_
 refine RN.m rfl ?_
 refine RN.C [] rfl rfl rfl rfl (c_call rfl rfl) (Cap_spec l hl) rfl ?_
 rintro _ _ ⟨rfl, rfl⟩
 refine RN.m rfl ?_
 refine RN.m rfl ?_
 refine RN.C [] rfl rfl rfl rfl (c_call rfl rfl) (Right9_spec (l.length / 32 : Nat) lba n (by omega)) rfl ?_
 rintro _ _ ⟨rfl, rfl⟩
 refine RN.p rfl (by exact (p_not_dec rfl rfl)) ?_
 refine RN.nil ?_
 refine hK3 _ _ ?_
 refine T.cond_dec rfl (fun h13 => ?_) (fun h13 => ?_)
 ·
  have hR : ¬ Right (l.length / 32 : Nat) lba n := h13
  refine T.seq fun K4 hK4 => ?_
  refine T.region (l := [0, 1]) rfl ?_
  refine RN.a rfl ?_
  refine RN.a rfl ?_
  refine RN.nil ?_
  refine hK4 _ _ ?_
  refine T.ret ?_
  refine Post.seq_r ?_
  refine bodyQ_ret [] (RetRun.tmp (RetRun.tmp RetRun.nil)) ⟨by rw [if_neg hR, decide_eq_false hR]; rfl, rfl⟩ (Ent.refl _)
 ·
  have hR : Right (l.length / 32 : Nat) lba n := Classical.not_not.1 h13
  have hR2 := hR
  unfold Right at hR2
  obtain ⟨lb, rfl⟩ := Int.eq_ofNat_of_zero_le hR2.2.2.1
  obtain ⟨nn, rfl⟩ := Int.eq_ofNat_of_zero_le (show 0 ≤ n by omega)
  refine T.skip ?_
  refine hK2 _ _ ?_
  refine T.seq fun K5 hK5 => ?_
  refine T.region (l := [0, 1, 2, 3, 4, 5, 6, 7, 8, 9]) rfl ?_
  refine RN.m rfl ?_
  refine RN.m rfl ?_
  refine RN.p rfl (by exact (p_mulN (b := 32) rfl rfl rfl (by omega))) ?_
  refine RN.m rfl ?_
  refine RN.m rfl ?_
  refine RN.p rfl (by exact (p_addN rfl rfl rfl (by omega))) ?_
  refine RN.p rfl (by exact (p_mulN (b := 32) rfl rfl rfl (by omega))) ?_
  refine RN.p rfl (by exact (p_sliceN_s rfl Tryz.underlying9 rfl rfl rfl (by omega))) ?_
  refine RN.a rfl ?_
  refine RN.a rfl ?_
  refine RN.nil ?_
  refine hK5 _ _ ?_
  refine T.ret ?_
  refine bodyQ_ret [] (RetRun.tmp (RetRun.tmp RetRun.nil)) ⟨by rw [if_pos hR, decide_eq_true hR, Int.toNat_natCast, Int.toNat_natCast, List.take_drop, ← Nat.add_mul]; rfl, rfl⟩ (Ent.refl _)

theorem RWrite_spec (l : List UInt8) (lba n : Int) (data : List UInt8) (hl : l.length ≤ 1099511627776) (hd : data.length ≤ 140737488351232) : Ctr Tryz.prog 9 [strV l, .int .i64 lba, .int .i64 n, strV data] [] (fun v Ps => v = .tuple #[strV (if Right (l.length / 32 : Nat) lba n then l.take (lba.toNat * 32) ++ padN (n.toNat * 32) data ++ l.drop ((lba.toNat + n.toNat) * 32) else l), .bool (decide (Right (l.length / 32 : Nat) lba n))] ∧ Ps = []) := by
 refine Ctr.of_body Tryz.func9 rfl (by kernel_rfl) Tryz.ntmps9 rfl rfl (fun Fr => ?_)
 refine T.seq fun K1 hK1 => ?_
 refine T.region (l := [0, 1]) rfl ?_
 refine RN.a rfl ?_
 refine RN.a rfl ?_
 refine RN.nil ?_
 refine hK1 _ _ ?_
 refine T.seq fun K2 hK2 => ?_
 refine T.seq fun K3 hK3 => ?_
 refine T.region (l := [0, 1, 2, 3, 4, 5]) rfl ?_
 refine RN.m rfl ?_
 refine RN.C [] rfl rfl rfl rfl (c_call rfl rfl) (Cap_spec l hl) rfl ?_
 rintro _ _ ⟨rfl, rfl⟩
 refine RN.m rfl ?_
 refine RN.m rfl ?_
 refine RN.C [] rfl rfl rfl rfl (c_call rfl rfl) (Right9_spec (l.length / 32 : Nat) lba n (by omega)) rfl ?_
 rintro _ _ ⟨rfl, rfl⟩
 refine RN.p rfl (by exact (p_not_dec rfl rfl)) ?_
 refine RN.nil ?_
 refine hK3 _ _ ?_
 refine T.cond_dec rfl (fun h17 => ?_) (fun h17 => ?_)
 ·
  have hR : ¬ Right (l.length / 32 : Nat) lba n := h17
  refine T.seq fun K4 hK4 => ?_
  refine T.region (l := [0, 1, 2]) rfl ?_
  refine RN.m rfl ?_
  refine RN.a rfl ?_
  refine RN.a rfl ?_
  refine RN.nil ?_
  refine hK4 _ _ ?_
  refine T.ret ?_
  refine Post.seq_r ?_
  refine bodyQ_ret [] (RetRun.tmp (RetRun.tmp RetRun.nil)) ⟨by rw [if_neg hR, decide_eq_false hR]; rfl, rfl⟩ (Ent.refl _)
 ·
  have hR : Right (l.length / 32 : Nat) lba n := Classical.not_not.1 h17
  have hR2 := hR
  unfold Right at hR2
  obtain ⟨lb, rfl⟩ := Int.eq_ofNat_of_zero_le hR2.2.2.1
  obtain ⟨nn, rfl⟩ := Int.eq_ofNat_of_zero_le (show 0 ≤ n by omega)
  refine T.skip ?_
  refine hK2 _ _ ?_
  refine T.seq fun K5 hK5 => ?_
  refine T.region (l := [0, 1, 2, 3]) rfl ?_
  refine RN.m rfl ?_
  refine RN.p rfl (by exact (p_mulN (b := 32) rfl rfl rfl (by omega))) ?_
  refine RN.E rfl rfl rfl rfl (by exact (e_makeSliceN rfl Tryz.underlying57 ti_5 rfl rfl rfl (by omega))) ?_
  rintro _ _ ⟨b21, rfl, rfl⟩
  refine RN.a rfl ?_
  refine RN.nil ?_
  refine hK5 _ _ ?_
  refine T.seq fun K6 hK6 => ?_
  refine T.seq fun K7 hK7 => ?_
  refine T.region (l := [0]) rfl ?_
  refine RN.a rfl ?_
  refine RN.nil ?_
  refine hK7 _ _ ?_
  refine T.block ?_
  refine T.loop (G := Nat) (fun i => i ≤ nn * 32 ∧ i ≤ data.length) (fun i => [(0, strV l), (1, .int .i64 lb), (2, .int .i64 nn), (3, strV data), (10, slc b21 0 (nn * 32) (nn * 32)), (11, intV i)]) (fun i => [row b21 5 ((data.take i).map u8V ++ List.replicate (nn * 32 - i) (u8V 0)), Fr]) (fun i => nn * 32 - i) 0 ⟨by omega, by omega⟩ (LiveIs.cons rfl (LiveIs.cons rfl (LiveIs.cons rfl (LiveIs.cons rfl (LiveIs.cons rfl (LiveIs.cons rfl LiveIs.nil)))))) ?_ ?_
  ·
   refine Ent.of_eq ?_
   simp [zeros]
   rfl
  rintro i e8 ⟨hi, hdi⟩
  refine T.seq fun K9 hK9 => ?_
  refine T.seq fun K10 hK10 => ?_
  refine T.region (l := [0, 1, 2, 3, 4, 5, 6, 7, 8, 9]) rfl ?_
  refine RN.m rfl ?_
  refine RN.m rfl ?_
  refine RN.p rfl (p_len rfl Tryz.underlying57 rfl) ?_
  refine RN.p rfl (p_lss rfl rfl rfl) ?_
  refine RN.m rfl ?_
  refine RN.split_dec 26 rfl (fun h26 => ?_) (fun h26 => ?_)
  ·
   have hi1 : i < nn * 32 := by omega
   refine RN.m rfl ?_
   refine RN.m rfl ?_
   refine RN.p rfl (p_len_s rfl Tryz.underlying9 rfl) ?_
   refine RN.p rfl (p_lss rfl rfl rfl) ?_
   refine RN.pt rfl ?_
   refine RN.nil ?_
   refine hK10 _ _ ?_
   refine T.cond_dec rfl (fun h31 => ?_) (fun h31 => ?_)
   ·
    have hi2 : i < data.length := by omega
    refine T.skip ?_
    refine hK9 _ _ ?_
    refine T.seq fun K11 hK11 => ?_
    refine T.block ?_
    refine T.region (l := [0, 1, 2, 3, 4, 5, 6]) rfl ?_
    refine RN.m rfl ?_
    refine RN.m rfl ?_
    refine RN.m rfl ?_
    refine RN.m rfl ?_
    refine RN.p rfl (by exact (p_indexN_s rfl Tryz.underlying9 rfl rfl (List.getElem?_eq_getElem hi2))) ?_
    refine RN.p rfl (by exact (p_indexAddr1N rfl Tryz.underlying57 ts_5 rfl rfl (by omega))) ?_
    refine RN.EN rfl rfl rfl (by exact (e_store rfl ts_5 rfl (by conv => lhs; whnf) (by rfl) (i := 0) rfl (by simp; omega))) ?_
    rintro _ _ ⟨rfl, rfl⟩
    refine RN.nil ?_
    refine hK11 _ _ ?_
    refine T.region (l := [0, 1, 2]) rfl ?_
    refine RN.m rfl ?_
    refine RN.p rfl (by exact (p_addN (b := 1) rfl rfl rfl (by omega))) ?_
    refine RN.a rfl ?_
    refine RN.nil ?_
    refine ⟨i + 1, ⟨by omega, by omega⟩, (by omega), (LiveIs.cons rfl (LiveIs.cons rfl (LiveIs.cons rfl (LiveIs.cons rfl (LiveIs.cons rfl (LiveIs.cons rfl LiveIs.nil)))))), ?_⟩
    exact Ent.of_eq (by simp only [setN]; rw [pad_set hi2 hi1])
   ·
    have hx := pad_all (data := data) (i := i) (m := nn * 32) (by omega) hi hdi
    refine T.exit ?_
    refine Post.seq_x ?_
    refine Post.seq_x ?_
    refine Post.block_hit ?_
    refine hK6 _ _ ?_
    refine T.seq fun K12 hK12 => ?_
    refine T.regionD (z := 16) (Bs := _) (l := [(0, .pure), (1, .pure), (2, .pure), (3, .pure), (4, .pure), (5, .load), (6, .pure), (7, .pure), (8, .pure), (9, .pure), (10, .pure), (11, .pure), (12, .pure), (13, .pure), (14, .pure), (15, .pure)]) mixed (by kernel_rfl) (Ent.refl _) ?_
    refine RD.n rfl (p_move rfl (by conv => lhs; whnf)) ?_
    refine RD.n rfl (p_move rfl (by conv => lhs; whnf)) ?_
    refine RD.n rfl (by exact (p_mulN (b := 32) rfl rfl rfl (by omega))) ?_
    refine RD.n rfl (by exact (p_slice_s_hi rfl Tryz.underlying9 rfl rfl (by omega))) ?_
    refine RD.n rfl (p_move rfl (by conv => lhs; whnf)) ?_
    refine RD.qq rfl rfl rfl rfl (q_bytes_str rfl Tryz.underlying57 Tryz.underlying5 Tryz.underlying9 rfl (i := 0) rfl (l := padN (nn * 32) data) (by simp; omega) (by rw [List.drop_zero, hx, List.take_of_length_le (by simp [padN_length])])) (Ent.refl _) ?_
    refine RD.n rfl (p_sadd rfl rfl rfl (by simp [padN_length]; omega)) ?_
    refine RD.n rfl (p_move rfl (by conv => lhs; whnf)) ?_
    refine RD.n rfl (p_move rfl (by conv => lhs; whnf)) ?_
    refine RD.n rfl (p_move rfl (by conv => lhs; whnf)) ?_
    refine RD.n rfl (by exact (p_addN rfl rfl rfl (by omega))) ?_
    refine RD.n rfl (by exact (p_mulN (b := 32) rfl rfl rfl (by omega))) ?_
    refine RD.n rfl (by exact (p_slice_s_lo rfl Tryz.underlying9 rfl rfl (by omega))) ?_
    refine RD.n rfl (p_sadd rfl rfl rfl (by simp [padN_length]; omega)) ?_
    refine RD.n rfl (p_assign rfl (by conv => lhs; whnf)) ?_
    refine RD.n rfl (p_assign rfl (by conv => lhs; whnf)) ?_
    refine RD.nil ?_
    refine hK12 _ _ ?_
    refine T.ret ?_
    refine bodyQ_ret [] (RetRun.tmp (RetRun.tmp RetRun.nil)) ⟨by rw [if_pos hR, decide_eq_true hR, Int.toNat_natCast, Int.toNat_natCast]; rfl, rfl⟩ (Ent.drop _ _)
  ·
   have hx := pad_all (data := data) (i := i) (m := nn * 32) (by omega) hi hdi
   refine RN.no0 rfl ?_
   refine RN.no0 rfl ?_
   refine RN.no0 rfl ?_
   refine RN.no0 rfl ?_
   refine RN.pf rfl ?_
   refine RN.nil ?_
   refine hK10 _ _ ?_
   refine T.cond_f rfl ?_
   refine T.exit ?_
   refine Post.seq_x ?_
   refine Post.seq_x ?_
   refine Post.block_hit ?_
   refine hK6 _ _ ?_
   refine T.seq fun K13 hK13 => ?_
   refine T.regionD (z := 16) (Bs := _) (l := [(0, .pure), (1, .pure), (2, .pure), (3, .pure), (4, .pure), (5, .load), (6, .pure), (7, .pure), (8, .pure), (9, .pure), (10, .pure), (11, .pure), (12, .pure), (13, .pure), (14, .pure), (15, .pure)]) mixed (by kernel_rfl) (Ent.refl _) ?_
   refine RD.n rfl (p_move rfl (by conv => lhs; whnf)) ?_
   refine RD.n rfl (p_move rfl (by conv => lhs; whnf)) ?_
   refine RD.n rfl (by exact (p_mulN (b := 32) rfl rfl rfl (by omega))) ?_
   refine RD.n rfl (by exact (p_slice_s_hi rfl Tryz.underlying9 rfl rfl (by omega))) ?_
   refine RD.n rfl (p_move rfl (by conv => lhs; whnf)) ?_
   refine RD.qq rfl rfl rfl rfl (q_bytes_str rfl Tryz.underlying57 Tryz.underlying5 Tryz.underlying9 rfl (i := 0) rfl (l := padN (nn * 32) data) (by simp; omega) (by rw [List.drop_zero, hx, List.take_of_length_le (by simp [padN_length])])) (Ent.refl _) ?_
   refine RD.n rfl (p_sadd rfl rfl rfl (by simp [padN_length]; omega)) ?_
   refine RD.n rfl (p_move rfl (by conv => lhs; whnf)) ?_
   refine RD.n rfl (p_move rfl (by conv => lhs; whnf)) ?_
   refine RD.n rfl (p_move rfl (by conv => lhs; whnf)) ?_
   refine RD.n rfl (by exact (p_addN rfl rfl rfl (by omega))) ?_
   refine RD.n rfl (by exact (p_mulN (b := 32) rfl rfl rfl (by omega))) ?_
   refine RD.n rfl (by exact (p_slice_s_lo rfl Tryz.underlying9 rfl rfl (by omega))) ?_
   refine RD.n rfl (p_sadd rfl rfl rfl (by simp [padN_length]; omega)) ?_
   refine RD.n rfl (p_assign rfl (by conv => lhs; whnf)) ?_
   refine RD.n rfl (p_assign rfl (by conv => lhs; whnf)) ?_
   refine RD.nil ?_
   refine hK13 _ _ ?_
   refine T.ret ?_
   refine bodyQ_ret [] (RetRun.tmp (RetRun.tmp RetRun.nil)) ⟨by rw [if_pos hR, decide_eq_true hR, Int.toNat_natCast, Int.toNat_natCast]; rfl, rfl⟩ (Ent.drop _ _)

end Go.Proofs.YtbbgajjonodlfaaGreat
