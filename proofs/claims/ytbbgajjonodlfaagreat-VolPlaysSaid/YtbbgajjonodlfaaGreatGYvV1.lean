/-
 Volumes: walked.
-/
import Derived.Test.YtbbgajjonodlfaaGreatGYvTy
import Derived.Test.YtbbgajjonodlfaaGreatGModelVo
import Derived.Test.YtbbgajjonodlfaaGreatGSl26
import Derived.Test.YtbbgajjonodlfaaGreatGEvCrc6v
set_option linter.unusedVariables false
set_option linter.unusedSimpArgs false
namespace Go.Proofs.YtbbgajjonodlfaaGreat
open Go Go.Sl Go.Proofs
set_option maxRecDepth 20000
open Go.Mo Go.Evl
theorem get_bnd {x k a : Nat} (hx : x < 256) (hk : k < 4) (ha : a < 256 ^ k) : x * 2 ^ (8 * k) < 4294967296 ∧ a + x * 2 ^ (8 * k) < 4294967296 := by
 have h4 : k = 0 ∨ k = 1 ∨ k = 2 ∨ k = 3 := by omega
 rcases h4 with rfl | rfl | rfl | rfl <;> simp at ha ⊢ <;> omega

theorem put_spec (b off n cap TT v : Nat) (cs : List Value) (hn : n ≤ 4) (hv : v < 4294967296) (hl : off + n ≤ cs.length) : Ctr Tryz.prog 61 [slc b off n cap, .int .u32 (v : Int)] [row b TT cs] (fun _ Ps => Ps = [row b TT (lay cs off ((leN v n).map u8V))]) := by
 refine Ctr.of_body Tryz.func61 rfl (by kernel_rfl) Tryz.ntmps61 rfl rfl (fun Fr => ?_)
 refine T.seq fun K1 hK1 => ?_
 refine T.region (l := [0, 1, 2]) rfl ?_
 refine RN.m rfl ?_
 refine RN.p rfl (p_len rfl Tryz.underlying57 rfl) ?_
 refine RN.m rfl ?_
 refine RN.nil ?_
 refine hK1 _ _ ?_
 refine T.block ?_
 refine T.loop (G := Nat) (fun k => k ≤ n) (fun k => [(0, slc b off n cap), (1, .int .u32 (v : Int)), (6, intV n), (7, intV k)]) (fun k => [row b TT (lay cs off ((leN v k).map u8V)), Fr]) (fun k => n - k) 0 (Nat.zero_le _) (LiveIs.cons rfl (LiveIs.cons rfl (LiveIs.cons rfl (LiveIs.cons rfl LiveIs.nil)))) (Ent.refl _) ?_
 rintro k e2 hk
 refine T.seq fun K3 hK3 => ?_
 refine T.region (l := [0]) rfl ?_
 refine RN.p rfl (p_lss rfl rfl rfl) ?_
 refine RN.nil ?_
 refine hK3 _ _ ?_
 refine T.seq fun K4 hK4 => ?_
 refine T.cond_dec rfl (fun h8 => ?_) (fun h8 => ?_)
 ·
  refine T.skip ?_
  refine hK4 _ _ ?_
  refine T.seq fun K5 hK5 => ?_
  refine T.block ?_
  refine T.seq fun K6 hK6 => ?_
  refine T.region (l := [0, 1]) rfl ?_
  refine RN.m rfl ?_
  refine RN.a rfl ?_
  refine RN.nil ?_
  refine hK6 _ _ ?_
  refine T.region (l := [0, 1, 2, 3, 4, 5, 6, 7, 8]) rfl ?_
  refine RN.m rfl ?_
  refine RN.m rfl ?_
  refine RN.m rfl ?_
  refine RN.m rfl ?_
  refine RN.p rfl (by exact (p_mulN (a := 8) rfl rfl rfl (by omega))) ?_
  refine RN.p rfl (p_shrN (b := 8 * k) rfl rfl rfl (by show 8 * k ≤ 32; omega)) ?_
  refine RN.p rfl (p_convB rfl Tryz.underlying107 Tryz.underlying5 rfl) ?_
  refine RN.p rfl (by exact (p_indexAddr1N rfl Tryz.underlying57 ts_5 rfl rfl (by omega))) ?_
  refine RN.EN rfl rfl rfl (by exact (e_store rfl ts_5 rfl (by conv => lhs; whnf) (by rfl) (i := 0) rfl (by rw [lay_length]; omega))) ?_
  rintro _ _ ⟨rfl, rfl⟩
  refine RN.nil ?_
  refine hK5 _ _ ?_
  refine T.region (l := [0, 1]) rfl ?_
  refine RN.p rfl (by exact (p_addN (b := 1) rfl rfl rfl (by omega))) ?_
  refine RN.m rfl ?_
  refine RN.nil ?_
  refine ⟨k + 1, (by omega), (by omega), (LiveIs.cons rfl (LiveIs.cons rfl (LiveIs.cons rfl (LiveIs.cons rfl LiveIs.nil)))), ?_⟩
  refine Ent.rowEq ?_
  have h := lay_snoc (cs := cs) (A := (leN v k).map u8V) (k := off) (v := u8V (UInt8.ofNat (v >>> (8 * k)))) (by simp [leN_length]; omega)
  rw [List.length_map, leN_length] at h
  rw [leN_succ, List.map_append]
  exact h
 ·
  obtain rfl : k = n := by omega
  refine T.exit ?_
  refine Post.seq_x ?_
  refine Post.seq_x ?_
  refine Post.block_hit ?_
  refine bodyQ_end [row b TT (lay cs off ((leN v k).map u8V))] RetRun.nil rfl (Ent.refl _)

theorem get_spec (b n cap TT : Nat) (l : List UInt8) (rest : List Value) (hl : l.length = n) (hn : n ≤ 4) : Ctr Tryz.prog 52 [slc b 0 n cap] [row b TT (l.map u8V ++ rest)] (fun v Ps => v = .int .u32 ((leV l : Nat) : Int) ∧ Ps = [row b TT (l.map u8V ++ rest)]) := by
 refine Ctr.of_body Tryz.func52 rfl (by kernel_rfl) Tryz.ntmps52 rfl rfl (fun Fr => ?_)
 refine T.seq fun K1 hK1 => ?_
 refine T.region (l := [0]) rfl ?_
 refine RN.a rfl ?_
 refine RN.nil ?_
 refine hK1 _ _ ?_
 refine T.seq fun K2 hK2 => ?_
 refine T.region (l := [0]) rfl ?_
 refine RN.a rfl ?_
 refine RN.nil ?_
 refine hK2 _ _ ?_
 refine T.seq fun K3 hK3 => ?_
 refine T.seq fun K4 hK4 => ?_
 refine T.region (l := [0, 1, 2]) rfl ?_
 refine RN.m rfl ?_
 refine RN.p rfl (p_len rfl Tryz.underlying57 rfl) ?_
 refine RN.m rfl ?_
 refine RN.nil ?_
 refine hK4 _ _ ?_
 refine T.block ?_
 refine T.loop (G := Nat) (fun k => k ≤ n) (fun k => [(3, .int .u32 ((leV (l.take k) : Nat) : Int)), (6, slc b 0 n cap), (7, intV n), (8, intV k)]) (fun k => [row b TT (l.map u8V ++ rest), Fr]) (fun k => n - k) 0 (Nat.zero_le _) (LiveIs.cons rfl (LiveIs.cons rfl (LiveIs.cons rfl (LiveIs.cons rfl LiveIs.nil)))) (Ent.refl _) ?_
 rintro k e5 hk
 refine T.seq fun K6 hK6 => ?_
 refine T.region (l := [0]) rfl ?_
 refine RN.p rfl (p_lss rfl rfl rfl) ?_
 refine RN.nil ?_
 refine hK6 _ _ ?_
 refine T.seq fun K7 hK7 => ?_
 refine T.cond_dec rfl (fun h9 => ?_) (fun h9 => ?_)
 ·
  have hkl : k < l.length := by omega
  have hx := l[k].toNat_lt
  have hlt := leV_lt (l.take k)
  rw [List.length_take, Nat.min_eq_left (by omega)] at hlt
  have hp : 2 ^ (8 * k) = 256 ^ k := by rw [Nat.pow_mul]
  obtain ⟨hm1, hm2⟩ := get_bnd l[k].toNat_lt (show k < 4 by omega) hlt
  refine T.skip ?_
  refine hK7 _ _ ?_
  refine T.seq fun K8 hK8 => ?_
  refine T.block ?_
  refine T.seq fun K9 hK9 => ?_
  refine T.region (l := [0, 1, 2, 3, 4]) rfl ?_
  refine RN.m rfl ?_
  refine RN.p rfl (by exact (p_indexAddr1N rfl Tryz.underlying57 ts_5 rfl rfl (by omega))) ?_
  refine RN.u rfl (by exact (q_load rfl sc_5 rfl (i := 0) rfl (by show (l.map u8V ++ rest)[0 + k]? = some (u8V l[k]); rw [Nat.zero_add, List.getElem?_append_left (by simpa using hkl), List.getElem?_map, List.getElem?_eq_getElem hkl]; rfl))) ?_
  refine RN.a rfl ?_
  refine RN.a rfl ?_
  refine RN.nil ?_
  refine hK9 _ _ ?_
  refine T.region (l := [0, 1, 2, 3, 4, 5, 6, 7]) rfl ?_
  refine RN.m rfl ?_
  refine RN.m rfl ?_
  refine RN.p rfl (p_conv_u32 rfl Tryz.underlying5 Tryz.underlying107 rfl (by omega)) ?_
  refine RN.m rfl ?_
  refine RN.p rfl (by exact (p_mulN (a := 8) rfl rfl rfl (by omega))) ?_
  refine RN.p rfl (p_shl32 (a := l[k].toNat) (b := 8 * k) rfl rfl rfl (by omega) hm1) ?_
  refine RN.p rfl (p_orApart (i := 8 * k) rfl rfl rfl (by rw [hp]; exact hlt) hm2) ?_
  refine RN.a rfl ?_
  refine RN.nil ?_
  refine hK8 _ _ ?_
  refine T.region (l := [0, 1]) rfl ?_
  refine RN.p rfl (by exact (p_addN (b := 1) rfl rfl rfl (by omega))) ?_
  refine RN.m rfl ?_
  refine RN.nil ?_
  refine ⟨k + 1, (by omega), (by omega), (LiveIs.cons (congrArg (fun z : Nat => Value.int .u32 (z : Int)) (by rw [List.take_succ_eq_append_getElem hkl, leV_snoc, List.length_take, Nat.min_eq_left (by omega), hp, Nat.mul_comm])) (LiveIs.cons rfl (LiveIs.cons rfl (LiveIs.cons rfl LiveIs.nil)))), Ent.refl _⟩
 ·
  obtain rfl : k = n := by omega
  refine T.exit ?_
  refine Post.seq_x ?_
  refine Post.seq_x ?_
  refine Post.block_hit ?_
  refine hK3 _ _ ?_
  refine T.seq fun K10 hK10 => ?_
  refine T.region (l := [0, 1]) rfl ?_
  refine RN.m rfl ?_
  refine RN.a rfl ?_
  refine RN.nil ?_
  refine hK10 _ _ ?_
  refine T.ret ?_
  refine bodyQ_ret [row b TT (l.map u8V ++ rest)] (RetRun.tmp RetRun.nil) ⟨congrArg (fun z : Nat => Value.int .u32 (z : Int)) (by rw [List.take_of_length_le (by omega)]), rfl⟩ (Ent.refl _)

theorem Sum_spec (b off n cap TT : Nat) (cs : List Value) (l : List UInt8) (hl : l.length = n) (hn : n ≤ 9223372036854775807) (hcs : ∀ (i : Nat) (x : UInt8), l[i]? = some x → cs[off + i]? = some (u8V x)) : Ctr Tryz.prog 62 [slc b off n cap] [row b TT cs] (fun v Ps => v = .int .u32 ((crcOf 0 l : Nat) : Int) ∧ Ps = [row b TT cs]) := by
 refine Ctr.of_body Tryz.func62 rfl (by kernel_rfl) Tryz.ntmps62 rfl rfl (fun Fr => ?_)
 refine T.seq fun K1 hK1 => ?_
 refine T.region (l := [0]) rfl ?_
 refine RN.a rfl ?_
 refine RN.nil ?_
 refine hK1 _ _ ?_
 refine T.seq fun K2 hK2 => ?_
 refine T.region (l := [0, 1, 2]) rfl ?_
 refine RN.m rfl ?_
 refine RN.C [0] rfl rfl rfl rfl (c_call rfl rfl) (More_ctr 0 b off n cap TT cs l (by decide) hl hn hcs) rfl ?_
 rintro _ _ ⟨rfl, rfl⟩
 refine RN.a rfl ?_
 refine RN.nil ?_
 refine hK2 _ _ ?_
 refine T.ret ?_
 refine bodyQ_ret [row b TT cs] (RetRun.tmp RetRun.nil) ⟨rfl, rfl⟩ (Ent.refl _)

def hd1 (n : List UInt8) : List UInt8 := [86, UInt8.ofNat n.length]
def hd2 (n : List UInt8) : List UInt8 := hd1 n ++ padN 16 n
def hd3 (x : VE) : List UInt8 := hd2 x.name ++ leN x.first 2
theorem crcOf_lt (l : List UInt8) : crcOf 0 l < 4294967296 := xor_lt (crcRun_lt _ (by decide)) (by decide)
theorem hd2_length (n : List UInt8) : (hd2 n).length = 18 := by simp [hd2, hd1, padN_length]
theorem hd3_length (x : VE) : (hd3 x).length = 20 := by simp [hd3, hd2_length, leN_length]
theorem laid_2 (n : List UInt8) (hn : n.length ≤ 16) : lay ((hd1 n).map u8V ++ List.replicate 30 (u8V 0)) (0 + 2 * 1) ((n.map u8V).take (min n.length 16 * 1)) = (hd2 n).map u8V ++ List.replicate 14 (u8V 0) := by
 have e1 : (n.map u8V).take (min n.length 16 * 1) = n.map u8V := List.take_of_length_le (by simp; omega)
 rw [e1]
 have h := lay_mid (A := n.map u8V) (cs := (hd1 n).map u8V ++ List.replicate 30 (u8V 0)) ((hd1 n).map u8V) (List.replicate n.length (u8V 0)) (List.replicate (30 - n.length) (u8V 0)) (by rw [List.append_assoc, List.replicate_append_replicate, show n.length + (30 - n.length) = 30 from by omega]) (by simp)
 refine Eq.trans ?_ (h.trans ?_)
 · rfl
 · rw [hd2, List.map_append, padN, List.map_append, List.take_of_length_le hn, List.map_replicate, List.append_assoc, List.append_assoc, List.append_assoc, List.replicate_append_replicate, show 16 - n.length + 14 = 30 - n.length from by omega]
theorem laid_n (A B : List UInt8) (a k m : Nat) (ha : A.length = a) (hb : B.length = k) : lay (A.map u8V ++ List.replicate (k + m) (u8V 0)) a (B.map u8V) = (A ++ B).map u8V ++ List.replicate m (u8V 0) := by
 have h := lay_mid (A := B.map u8V) (cs := A.map u8V ++ List.replicate (k + m) (u8V 0)) (A.map u8V) (List.replicate k (u8V 0)) (List.replicate m (u8V 0)) (by rw [List.append_assoc, List.replicate_append_replicate]) (by simp [hb])
 rw [List.length_map, ha] at h
 rw [h, List.map_append]

theorem laid_spec (x : VE) (hn : x.name.length ≤ 16) (hf : x.first < 65536) (hl : x.len < 65536) : Ctr Tryz.prog 53 [.agg x.cells.toArray] [] (fun v Ps => v = strV (laidT x) ∧ Ps = []) := by
 refine Ctr.of_body Tryz.func53 rfl (by kernel_rfl) Tryz.ntmps53 rfl rfl (fun Fr => ?_)
 refine T.seq fun K1 hK1 => ?_
 refine T.region (l := [0, 1]) rfl ?_
 refine RN.E rfl rfl rfl rfl (e_box rfl rfl rfl) ?_
 rintro _ _ ⟨b1, rfl, rfl⟩
 refine RN.a rfl ?_
 refine RN.nil ?_
 refine hK1 _ _ ?_
 refine T.seq fun K2 hK2 => ?_
 refine T.region (l := [0, 1]) rfl ?_
 refine RN.E rfl rfl rfl rfl (by exact (e_makeSliceN (n := 32) (c := 32) rfl Tryz.underlying57 ti_5 rfl rfl rfl (by omega))) ?_
 rintro _ _ ⟨b4, rfl, rfl⟩
 refine RN.a rfl ?_
 refine RN.nil ?_
 refine hK2 _ _ ?_
 refine T.seq fun K3 hK3 => ?_
 refine T.regionD (z := 9) (Bs := [row b1 49 x.cells]) (l := [(0, .pure), (1, .pure), (2, .pure), (3, .load), (4, .pure), (5, .pure), (6, .pure), (7, .eff), (8, .pure), (9, .eff)]) mixed (by kernel_rfl) (by exact Ent.pull_drop (is := [1]) rfl) ?_
 refine RD.n rfl (p_move rfl (by conv => lhs; whnf)) ?_
 refine RD.n rfl (p_move rfl (by conv => lhs; whnf)) ?_
 refine RD.n rfl (p_fieldAddr rfl fa_49_0 rfl) ?_
 refine RD.qq rfl rfl rfl rfl (q_load rfl sc_9 rfl (i := 0) rfl rfl) (by exact Ent.pull_drop (is := [1]) rfl) ?_
 refine RD.n rfl (p_len_s rfl Tryz.underlying9 rfl) ?_
 refine RD.n rfl (p_convB rfl Tryz.underlying3 Tryz.underlying5 rfl) ?_
 refine RD.n rfl (by exact (p_indexAddr1N (i := 0) rfl Tryz.underlying57 ts_5 rfl rfl (by omega))) ?_
 refine RD.EN rfl rfl rfl (by exact (e_store rfl ts_5 rfl (by conv => lhs; whnf) (by rfl) (i := 0) rfl (by simp [zeros]))) (by rintro _ _ ⟨rfl, rfl⟩; exact .inl (by exact Ent.pull_drop (is := [1]) rfl)) ?_
 rintro _ _ ⟨rfl, rfl⟩
 refine RD.n rfl (by exact (p_indexAddr1N (i := 1) rfl Tryz.underlying57 ts_5 rfl rfl (by omega))) ?_
 refine RD.EN rfl rfl rfl (by exact (e_store rfl ts_5 rfl (by conv => lhs; whnf) (by rfl) (i := 0) rfl (by simp [zeros]))) (fun _ _ _ => .inr rfl) ?_
 rintro _ _ ⟨rfl, rfl⟩
 refine RD.nil ?_
 refine hK3 _ _ ?_
 refine T.seq fun K4 hK4 => ?_
 refine T.ent (Hs' := [row b4 5 ((hd1 x.name).map u8V ++ List.replicate 30 (u8V 0)), row b1 49 x.cells, Fr]) (Ent.of_eq (by rfl)) ?_
 refine T.regionD (z := 4) (Bs := [row b1 49 x.cells]) (l := [(0, .pure), (1, .pure), (2, .pure), (3, .load), (4, .eff)]) mixed (by kernel_rfl) (by exact Ent.pull_drop (is := [1]) rfl) ?_
 refine RD.n rfl (p_move rfl (by conv => lhs; whnf)) ?_
 refine RD.n rfl (by exact (p_slice_lh (l := 2) (h := 18) rfl Tryz.underlying57 ts_5 rfl rfl rfl (by omega))) ?_
 refine RD.n rfl (p_fieldAddr rfl fa_49_0 rfl) ?_
 refine RD.qq rfl rfl rfl rfl (q_load rfl sc_9 rfl (i := 0) rfl rfl) (by exact Ent.pull_drop (is := [1]) rfl) ?_
 refine RD.E rfl rfl rfl rfl (e_copy rfl Tryz.underlying57 ts_5 rfl (i := 0) rfl (by simp [hd1]) src_str one_u8) (fun _ _ _ => .inr rfl) ?_
 rintro _ _ ⟨rfl, rfl⟩
 refine RD.nil ?_
 refine hK4 _ _ ?_
 refine T.seq fun K5 hK5 => ?_
 refine T.ent (Hs' := [row b4 5 ((hd2 x.name).map u8V ++ List.replicate 14 (u8V 0)), row b1 49 x.cells, Fr]) (Ent.rowEq (laid_2 x.name hn)) ?_
 refine T.regionD (z := 6) (Bs := [row b1 49 x.cells]) (l := [(0, .pure), (1, .pure), (2, .pure), (3, .load), (4, .pure), (5, .eff)]) mixed (by kernel_rfl) (by exact Ent.pull_drop (is := [1]) rfl) ?_
 refine RD.n rfl (p_move rfl (by conv => lhs; whnf)) ?_
 refine RD.n rfl (by exact (p_slice_lh (l := 18) (h := 20) rfl Tryz.underlying57 ts_5 rfl rfl rfl (by omega))) ?_
 refine RD.n rfl (p_fieldAddr rfl fa_49_1 rfl) ?_
 refine RD.qq rfl rfl rfl rfl (q_load rfl sc_3 rfl (i := 0) rfl rfl) (by exact Ent.pull_drop (is := [1]) rfl) ?_
 refine RD.n rfl (p_conv_u32 rfl Tryz.underlying3 Tryz.underlying107 rfl (by omega)) ?_
 refine RD.C [0] rfl rfl rfl rfl (c_call rfl rfl) (put_spec b4 18 2 14 5 x.first ((hd2 x.name).map u8V ++ List.replicate 14 (u8V 0)) (by decide) (by omega) (by simp [hd2_length])) rfl (by rintro _ _ rfl; exact .inl (by exact Ent.pull_drop (is := [1]) rfl)) ?_
 rintro _ _ rfl
 refine RD.nil ?_
 refine hK5 _ _ ?_
 refine T.seq fun K6 hK6 => ?_
 refine T.ent (Hs' := [row b4 5 ((hd3 x).map u8V ++ List.replicate 12 (u8V 0)), row b1 49 x.cells, Fr]) (Ent.rowEq (laid_n (hd2 x.name) (leN x.first 2) 18 2 12 (hd2_length _) (leN_length _ _))) ?_
 refine T.regionD (z := 6) (Bs := [row b1 49 x.cells]) (l := [(0, .pure), (1, .pure), (2, .pure), (3, .load), (4, .pure), (5, .eff)]) mixed (by kernel_rfl) (by exact Ent.pull_drop (is := [1]) rfl) ?_
 refine RD.n rfl (p_move rfl (by conv => lhs; whnf)) ?_
 refine RD.n rfl (by exact (p_slice_lh (l := 20) (h := 22) rfl Tryz.underlying57 ts_5 rfl rfl rfl (by omega))) ?_
 refine RD.n rfl (p_fieldAddr rfl fa_49_2 rfl) ?_
 refine RD.qq rfl rfl rfl rfl (q_load rfl sc_3 rfl (i := 0) rfl rfl) (by exact Ent.pull_drop (is := [1]) rfl) ?_
 refine RD.n rfl (p_conv_u32 rfl Tryz.underlying3 Tryz.underlying107 rfl (by omega)) ?_
 refine RD.C [0] rfl rfl rfl rfl (c_call rfl rfl) (put_spec b4 20 2 12 5 x.len ((hd3 x).map u8V ++ List.replicate 12 (u8V 0)) (by decide) (by omega) (by simp [hd3_length])) rfl (by rintro _ _ rfl; exact .inl (by exact Ent.pull_drop (is := [1]) rfl)) ?_
 rintro _ _ rfl
 refine RD.nil ?_
 refine hK6 _ _ ?_
 refine T.seq fun K7 hK7 => ?_
 refine T.ent (Hs' := [row b4 5 ((hdT x).map u8V ++ List.replicate 10 (u8V 0)), row b1 49 x.cells, Fr]) (Ent.rowEq (laid_n (hd3 x) (leN x.len 2) 20 2 10 (hd3_length _) (leN_length _ _))) ?_
 refine T.regionD (z := 5) (Bs := []) (l := [(0, .pure), (1, .pure), (2, .pure), (3, .pure), (4, .eff), (5, .eff)]) mixed (by kernel_rfl) (Ent.nil _) ?_
 refine RD.n rfl (p_move rfl (by conv => lhs; whnf)) ?_
 refine RD.n rfl (by exact (p_slice_lh (l := 22) (h := 26) rfl Tryz.underlying57 ts_5 rfl rfl rfl (by omega))) ?_
 refine RD.n rfl (p_move rfl (by conv => lhs; whnf)) ?_
 refine RD.n rfl (by exact (p_slice_hi (h := 22) rfl Tryz.underlying57 ts_5 rfl rfl (by omega))) ?_
 refine RD.C [0] rfl rfl rfl rfl (c_call rfl rfl) (Sum_spec b4 0 22 32 5 ((hdT x).map u8V ++ List.replicate 10 (u8V 0)) (hdT x) (hdT_length x) (by decide) (by intro i y hy; have hi := (List.getElem?_eq_some_iff.1 hy).1; rw [Nat.zero_add, List.getElem?_append_left (by simpa using hi), List.getElem?_map, hy]; rfl)) rfl (by rintro _ _ ⟨rfl, rfl⟩; exact .inl (Ent.nil _)) ?_
 rintro _ _ ⟨rfl, rfl⟩
 refine RD.C [0] rfl rfl rfl rfl (c_call rfl rfl) (put_spec b4 22 4 10 5 (crcOf 0 (hdT x)) ((hdT x).map u8V ++ List.replicate 10 (u8V 0)) (by decide) (crcOf_lt _) (by simp [hdT_length])) rfl (fun _ _ _ => .inr rfl) ?_
 rintro _ _ rfl
 refine RD.nil ?_
 refine hK7 _ _ ?_
 refine T.seq fun K8 hK8 => ?_
 refine T.ent (Hs' := [row b4 5 ((laidT x).map u8V), row b1 49 x.cells, Fr]) (Ent.rowEq ((laid_n (hdT x) (leN (crcOf 0 (hdT x)) 4) 22 4 6 (hdT_length _) (leN_length _ _)).trans (by rw [laidT, List.map_append (l₂ := List.replicate 6 0), List.map_replicate]))) ?_
 refine T.region (l := [0, 1, 2]) rfl ?_
 refine RN.m rfl ?_
 refine RN.u rfl (by exact (q_bytes_str rfl Tryz.underlying57 Tryz.underlying5 Tryz.underlying9 rfl (i := 0) rfl (l := laidT x) (by simp [laidT_length]) (by rw [List.drop_zero, List.take_of_length_le (by simp [laidT_length])]))) ?_
 refine RN.a rfl ?_
 refine RN.nil ?_
 refine hK8 _ _ ?_
 refine T.ret ?_
 refine bodyQ_ret [] (RetRun.tmp RetRun.nil) ⟨rfl, rfl⟩ (Ent.pull_drop (is := [2]) rfl)

theorem meets_spec (x y : VE) (hx : x.first + x.len ≤ 1048576) (hy : y.first + y.len ≤ 1048576) : Ctr Tryz.prog 31 [.agg x.cells.toArray, .agg y.cells.toArray] [] (fun v Ps => v = .bool (decide (x.meets y)) ∧ Ps = []) := by
 refine Ctr.of_body Tryz.func31 rfl (by kernel_rfl) Tryz.ntmps31 rfl rfl (fun Fr => ?_)
 refine T.seq fun K1 hK1 => ?_
 refine T.region (l := [0, 1, 2]) rfl ?_
 refine RN.E rfl rfl rfl rfl (e_box rfl rfl rfl) ?_
 rintro _ _ ⟨b2, rfl, rfl⟩
 refine RN.E rfl rfl rfl rfl (e_box rfl rfl rfl) ?_
 rintro _ _ ⟨b3, rfl, rfl⟩
 refine RN.a rfl ?_
 refine RN.nil ?_
 refine hK1 _ _ ?_
 refine T.seq fun K2 hK2 => ?_
 refine T.region (l := [0, 1, 2, 3, 4, 5, 6, 7, 8, 9, 10, 11, 12, 13, 14, 15, 16, 17, 18, 19, 20, 21, 22, 23, 24, 25]) rfl ?_
 refine RN.p rfl (p_fieldAddr rfl fa_49_0 rfl) ?_
 refine RN.u rfl (by exact (q_load rfl sc_9 rfl (i := 1) rfl rfl)) ?_
 refine RN.p rfl (p_fieldAddr rfl fa_49_0 rfl) ?_
 refine RN.u rfl (by exact (q_load rfl sc_9 rfl (i := 0) rfl rfl)) ?_
 refine RN.p rfl (p_seql rfl rfl rfl) ?_
 refine RN.m rfl ?_
 refine RN.split_dec 10 rfl (fun h10 => ?_) (fun h10 => ?_)
 ·
  refine RN.no0 rfl ?_
  refine RN.no0 rfl ?_
  refine RN.no0 rfl ?_
  refine RN.no0 rfl ?_
  refine RN.no0 rfl ?_
  refine RN.no0 rfl ?_
  refine RN.no0 rfl ?_
  refine RN.no0 rfl ?_
  refine RN.no0 rfl ?_
  refine RN.no0 rfl ?_
  refine RN.no0 rfl ?_
  refine RN.no0 rfl ?_
  refine RN.no0 rfl ?_
  refine RN.no0 rfl ?_
  refine RN.no0 rfl ?_
  refine RN.no0 rfl ?_
  refine RN.no0 rfl ?_
  refine RN.no0 rfl ?_
  refine RN.pt rfl ?_
  refine RN.a rfl ?_
  refine RN.nil ?_
  refine hK2 _ _ ?_
  refine T.ret ?_
  refine bodyQ_ret [] (RetRun.tmp RetRun.nil) ⟨congrArg Value.bool ((decide_eq_true (.inl h10)).symm), rfl⟩ (Ent.pull_drop (is := [2]) rfl)
 ·
  refine RN.p rfl (p_fieldAddr rfl fa_49_1 rfl) ?_
  refine RN.u rfl (by exact (q_load rfl sc_3 rfl (i := 1) rfl rfl)) ?_
  refine RN.p rfl (p_fieldAddr rfl fa_49_1 rfl) ?_
  refine RN.u rfl (by exact (q_load rfl sc_3 rfl (i := 0) rfl rfl)) ?_
  refine RN.p rfl (p_fieldAddr rfl fa_49_2 rfl) ?_
  refine RN.u rfl (by exact (q_load rfl sc_3 rfl (i := 0) rfl rfl)) ?_
  refine RN.p rfl (by exact (p_addN rfl rfl rfl (by omega))) ?_
  refine RN.p rfl (p_lss rfl rfl rfl) ?_
  refine RN.m rfl ?_
  refine RN.split_dec 19 rfl (fun h19 => ?_) (fun h19 => ?_)
  ·
   refine RN.p rfl (p_fieldAddr rfl fa_49_1 rfl) ?_
   refine RN.u rfl (by exact (q_load rfl sc_3 rfl (i := 0) rfl rfl)) ?_
   refine RN.p rfl (p_fieldAddr rfl fa_49_1 rfl) ?_
   refine RN.u rfl (by exact (q_load rfl sc_3 rfl (i := 1) rfl rfl)) ?_
   refine RN.p rfl (p_fieldAddr rfl fa_49_2 rfl) ?_
   refine RN.u rfl (by exact (q_load rfl sc_3 rfl (i := 1) rfl rfl)) ?_
   refine RN.p rfl (by exact (p_addN rfl rfl rfl (by omega))) ?_
   refine RN.p rfl (p_lss rfl rfl rfl) ?_
   refine RN.pt rfl ?_
   refine RN.pf rfl ?_
   refine RN.a rfl ?_
   refine RN.nil ?_
   refine hK2 _ _ ?_
   refine T.ret ?_
   refine bodyQ_ret [] (RetRun.tmp RetRun.nil) ⟨congrArg Value.bool (decide_eq_decide.2 ⟨fun h => .inr ⟨by omega, by omega⟩, fun h => by rcases h with h | h; exact absurd h h10; omega⟩), rfl⟩ (Ent.pull_drop (is := [2]) rfl)
  ·
   refine RN.no0 rfl ?_
   refine RN.no0 rfl ?_
   refine RN.no0 rfl ?_
   refine RN.no0 rfl ?_
   refine RN.no0 rfl ?_
   refine RN.no0 rfl ?_
   refine RN.no0 rfl ?_
   refine RN.no0 rfl ?_
   refine RN.pf rfl ?_
   refine RN.pf rfl ?_
   refine RN.a rfl ?_
   refine RN.nil ?_
   refine hK2 _ _ ?_
   refine T.ret ?_
   refine bodyQ_ret [] (RetRun.tmp RetRun.nil) ⟨congrArg Value.bool ((decide_eq_false (fun h => by rcases h with h | h; exact h10 h; omega)).symm), rfl⟩ (Ent.pull_drop (is := [2]) rfl)

end Go.Proofs.YtbbgajjonodlfaaGreat
