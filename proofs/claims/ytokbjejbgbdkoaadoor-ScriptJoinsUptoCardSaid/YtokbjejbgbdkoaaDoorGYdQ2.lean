/-
 Texts told: walked.
-/
import Derived.Test.YtokbjejbgbdkoaaDoorGYdQ1
import Derived.Test.YtokbjejbgbdkoaaDoorGModelU
set_option linter.unusedVariables false
set_option linter.unusedSimpArgs false
namespace Go.Proofs.YtokbjejbgbdkoaaDoor
open Go Go.Sl Go.Proofs
set_option maxRecDepth 20000
open Go.Mo Go.Proofs Go.Shelf Go.RowKit
theorem pcB_bad {l : List UInt8} {p : Nat} (hp : p < l.length) (h : dec l p = (65533, 1)) : [92, 120] ++ hexN l[p].toNat 2 = pcB (l.drop p) := by
 unfold pcB
 rw [dec_drop, if_pos h, at0_drop, Nat.add_zero, at0_get hp]
theorem pcB_good {l : List UInt8} {p : Nat} (h : ¬ dec l p = (65533, 1)) : toldR (dec l p).1 = pcB (l.drop p) := by
 unfold pcB
 rw [dec_drop, if_neg h]
theorem qstep {l q X : List UInt8} {p : Nat} (hp : p < l.length) (h : q ++ qI (l.drop p) = X) : (q ++ pcB (l.drop p)) ++ qI (l.drop (p + (dec l p).2)) = X := by
 have hne : l.drop p ≠ [] := fun g => by have := congrArg List.length g; rw [List.length_drop] at this; simp at this; omega
 rw [qI_step hne, List.drop_drop] at h
 unfold wdB at h
 rw [dec_drop] at h
 rw [List.append_assoc]
 exact h
theorem qlen {l q : List UInt8} {p : Nat} (h : q ++ qI (l.drop p) = 34 :: qI l) : q.length ≤ 6 * l.length + 1 := by
 have h1 := congrArg List.length h
 have h2 := qI_len _ l (Nat.le_refl _)
 rw [List.length_append, List.length_cons] at h1
 omega
theorem qdone {l q : List UInt8} {p : Nat} (hp : p = l.length) (h : q ++ qI (l.drop p) = 34 :: qI l) : q ++ [34] = Qt l := by
 subst hp
 rw [List.drop_length, qI_nil, List.append_nil] at h
 subst h
 rfl

theorem Quote_spec (A : Assn) (hA : Glob 1 2 A) (l : List UInt8) (hl : l.length ≤ 100000000) : Ctr Tryd.prog 31 [strV l] [A] (fun w Ps => w = strV (Qt l) ∧ Ps = [A]) := by
 refine Ctr.of_body Tryd.func31 rfl (by kernel_rfl) Tryd.ntmps31 rfl rfl (fun Fr => ?_)
 refine T.seq fun K1 hK1 => ?_
 refine T.region (l := [0]) rfl ?_
 refine RN.a rfl ?_
 refine RN.nil ?_
 refine hK1 _ _ ?_
 refine T.seq fun K2 hK2 => ?_
 refine T.region (l := [0]) rfl ?_
 refine RN.E rfl rfl rfl rfl (e_alloc rfl ti_57) ?_
 rintro _ _ ⟨b3, rfl, rfl⟩
 refine RN.nil ?_
 refine hK2 _ _ ?_
 refine T.seq fun K3 hK3 => ?_
 refine T.ent (bld_new (el := 5)) ?_
 refine T.region (l := [0]) rfl ?_
 refine RN.C [0] rfl rfl rfl rfl (c_call rfl rfl) (WriteS_spec b3 [] [34] (by simp) (by simp)) rfl ?_
 rintro _ _ ⟨rfl, rfl⟩
 refine RN.nil ?_
 refine hK3 _ _ ?_
 refine T.seq fun K4 hK4 => ?_
 refine T.seq fun K5 hK5 => ?_
 refine T.region (l := [0, 1]) rfl ?_
 refine RN.m rfl ?_
 refine RN.E rfl rfl rfl rfl (e_range rfl Tryd.underlying9 rfl) ?_
 rintro _ _ ⟨b8, rfl, rfl⟩
 refine RN.nil ?_
 refine hK5 _ _ ?_
 refine T.block ?_
 refine T.loop (G := Nat × List UInt8) (fun ⟨p, q⟩ => p ≤ l.length ∧ q ++ qI (l.drop p) = 34 :: qI l) (fun ⟨p, q⟩ => [(0, strV l), (3, ptr b3 0), (8, ptr b8 0)]) (fun ⟨p, q⟩ => [iter b8 l p, bld 57 5 b3 (q), A, Fr]) (fun ⟨p, q⟩ => l.length - p) (0, [34]) ⟨Nat.zero_le _, rfl⟩ (LiveIs.cons rfl (LiveIs.cons rfl (LiveIs.cons rfl LiveIs.nil))) (Ent.refl _) ?_
 rintro ⟨p, q⟩ e6 ⟨hp, hq⟩
 dsimp only
 have hql := qlen hq
 refine T.seq fun K7 hK7 => ?_
 refine T.region (l := [0, 1]) rfl ?_
 by_cases hlt : p < l.length
 ·
  refine RN.E rfl rfl rfl rfl (e_next_go rfl rfl (i := 0) rfl hlt) ?_
  rintro _ _ ⟨rfl, rfl⟩
  refine RN.p rfl (p_extract rfl rfl rfl) ?_
  refine RN.nil ?_
  refine hK7 _ _ ?_
  refine T.seq fun K8 hK8 => ?_
  refine T.cond_t rfl ?_
  refine T.skip ?_
  refine hK8 _ _ ?_
  refine T.block ?_
  refine T.seq fun K9 hK9 => ?_
  refine T.region (l := [0, 1, 2, 3]) rfl ?_
  refine RN.p rfl (p_extract rfl rfl rfl) ?_
  refine RN.p rfl (p_extract rfl rfl rfl) ?_
  refine RN.a rfl ?_
  refine RN.a rfl ?_
  refine RN.nil ?_
  refine hK9 _ _ ?_
  refine T.seq fun K10 hK10 => ?_
  refine T.region (l := [0, 1, 2, 3]) rfl ?_
  refine RN.m rfl ?_
  refine RN.m rfl ?_
  refine RN.m rfl ?_
  refine RN.C [2] rfl rfl rfl rfl (c_call rfl rfl) (Wrong_spec A hA l p (dec l p).1 hlt rfl) rfl ?_
  rintro _ _ ⟨rfl, rfl⟩
  refine RN.nil ?_
  refine hK10 _ _ ?_
  first | refine T.cond_dec rfl (fun h16 => ?_) (fun h16 => ?_) | refine T.cond rfl (fun h16 => ?_) (fun h16 => ?_)
  ·
   refine T.region (l := [0, 1, 2, 3, 4, 5, 6]) rfl ?_
   refine RN.m rfl ?_
   refine RN.m rfl ?_
   refine RN.p rfl (by first | exact (p_indexN_s rfl Tryd.underlying9 rfl rfl (List.getElem?_eq_getElem hlt)) | exact (p_index_s rfl Tryd.underlying9 rfl rfl (List.getElem?_eq_getElem hlt))) ?_
   refine RN.p rfl (p_conv_i32 rfl Tryd.underlying5 Tryd.underlying21 rfl (by have := l[p].toNat_lt; omega)) ?_
   refine RN.C [] rfl rfl rfl rfl (c_call rfl rfl) (Num_spec l[p].toNat 2 (by have := l[p].toNat_lt; omega) (by omega)) rfl ?_
   rintro _ _ ⟨rfl, rfl⟩
   have hpl := pcB_len (s := l.drop p)
   refine RN.p rfl (p_sadd rfl rfl rfl (by rw [hexN_length]; decide)) ?_
   rw [pcB_bad hlt h16]
   refine RN.C [2] rfl rfl rfl rfl (c_call rfl rfl) (WriteS_spec b3 q (pcB (l.drop p)) (List.length_pos_iff.1 (by omega)) (by omega)) rfl ?_
   rintro _ _ ⟨rfl, rfl⟩
   refine RN.nil ?_
   refine ⟨(p + (dec l p).2, q ++ pcB (l.drop p)), ⟨(dec_step hlt).2, qstep hlt hq⟩, (by have := dec_step hlt; show _ - (p + _) < _ - p; omega), (LiveIs.cons rfl (LiveIs.cons rfl (LiveIs.cons rfl LiveIs.nil))), (Ent.pull_drop (is := [2, 0, 0, 0]) rfl)⟩
  ·
   refine T.region (l := [0, 1, 2]) rfl ?_
   refine RN.m rfl ?_
   refine RN.C [] rfl rfl rfl rfl (c_call rfl rfl) (Told_spec (dec l p).1 (dec_lt hlt)) rfl ?_
   rintro _ _ ⟨rfl, rfl⟩
   rw [pcB_good h16]
   have hpl := pcB_len (s := l.drop p)
   refine RN.C [2] rfl rfl rfl rfl (c_call rfl rfl) (WriteS_spec b3 q (pcB (l.drop p)) (List.length_pos_iff.1 (by omega)) (by omega)) rfl ?_
   rintro _ _ ⟨rfl, rfl⟩
   refine RN.nil ?_
   refine ⟨(p + (dec l p).2, q ++ pcB (l.drop p)), ⟨(dec_step hlt).2, qstep hlt hq⟩, (by have := dec_step hlt; show _ - (p + _) < _ - p; omega), (LiveIs.cons rfl (LiveIs.cons rfl (LiveIs.cons rfl LiveIs.nil))), (Ent.pull_drop (is := [2, 0, 0, 0]) rfl)⟩
 ·
  refine RN.E rfl rfl rfl rfl (e_next_end rfl rfl (i := 0) rfl (by omega)) ?_
  rintro _ _ ⟨rfl, rfl⟩
  refine RN.p rfl (p_extract rfl rfl rfl) ?_
  refine RN.nil ?_
  refine hK7 _ _ ?_
  refine T.seq fun K11 hK11 => ?_
  refine T.cond_f rfl ?_
  refine T.exit ?_
  refine Post.seq_x ?_
  refine Post.seq_x ?_
  refine Post.block_hit ?_
  refine hK4 _ _ ?_
  refine T.seq fun K12 hK12 => ?_
  refine T.region (l := [0]) rfl ?_
  refine RN.C [1] rfl rfl rfl rfl (c_call rfl rfl) (WriteS_spec b3 q [34] (by simp) (by simp only [List.length_cons, List.length_nil]; omega)) rfl ?_
  rintro _ _ ⟨rfl, rfl⟩
  refine RN.nil ?_
  refine hK12 _ _ ?_
  refine T.seq fun K13 hK13 => ?_
  refine T.region (l := [0, 1]) rfl ?_
  refine RN.C [0] rfl rfl rfl rfl (c_call rfl rfl) (StringS_spec b3 (q ++ [34]) (by rw [List.length_append]; simp only [List.length_cons, List.length_nil]; omega)) rfl ?_
  rintro _ _ ⟨rfl, rfl⟩
  refine RN.a rfl ?_
  refine RN.nil ?_
  refine hK13 _ _ ?_
  refine T.ret ?_
  refine bodyQ_ret [A] (RetRun.tmp RetRun.nil) ⟨congrArg strV (qdone (by omega) hq), rfl⟩ (Ent.pull_drop (is := [1, 1]) rfl)

end Go.Proofs.YtokbjejbgbdkoaaDoor
namespace Go.Proofs.YtokbjejbgbdkoaaDoor
open Go Go.Sl Go.Proofs
set_option maxRecDepth 20000
open Go.Mo Go.Proofs Go.Shelf Go.RowKit
theorem Idx_spec (c : UInt8) : Ctr Tryd.prog 58 [strV hexL, u8V c] [] (fun w Ps => w = .int .i64 (digI c) ∧ Ps = []) :=
 Ctr.ofSame ⟨_, Tryd.func58, by kernel_rfl, by kernel_rfl⟩ fun W0 Fr w hs => by
  have h := Any.strings_IndexByte lays137 ⟨hexL.toArray⟩ (c.toNat : Int) w
  have e : ((c.toNat : Int).toNat.toUInt8) = c := by rw [Int.toNat_natCast]; exact UInt8.ofNat_toNat
  rw [e] at h
  exact h
theorem row_at {l : List UInt8} {n i : Nat} {z : List Value} (hi : i < n) (hn : n ≤ l.length) : ((l.take n).map u8V ++ z)[0 + i]? = some (u8V (l[i]'(by omega))) := by
 rw [Nat.zero_add, List.getElem?_append_left (by rw [List.length_map, List.length_take]; omega), List.getElem?_map, List.getElem?_take, if_pos hi, List.getElem?_eq_getElem (by omega)]
 rfl
theorem u8_of {c n : UInt8} (h : (c.toNat : Int) = (n.toNat : Int)) : c = n := UInt8.toNat_inj.1 (by omega)
theorem u8_val {v : Nat} (h : v < 256) : Value.int .u8 (v : Int) = u8V (UInt8.ofNat v) := by
 unfold u8V
 rw [UInt8.toNat_ofNat_of_lt' h]
theorem two_of {l : List UInt8} (h : at0 l 0 = 92) (hl : 2 ≤ l.length) : ∃ c r, l = 92 :: c :: r := by
 match l, h, hl with
 | a :: c :: r, h, _ =>
  have ha : a = 92 := UInt8.toNat_inj.1 h
  subst ha
  exact ⟨c, r, rfl⟩
theorem hexF_lt : ∀ (r : List UInt8) (u v : Nat), hexF u r = some v → v < (u + 1) * 16 ^ r.length
 | [], u, v, h => by cases h; simp
 | c :: r, u, v, h => by
  unfold hexF at h
  split at h
  ·
   have := hexF_lt r _ v h
   have h2 := digI_le c
   rw [List.length_cons, Nat.pow_succ]
   have h3 : 16 * u + (digI c).toNat + 1 ≤ 16 * (u + 1) := by omega
   have h4 := Nat.mul_le_mul_right (16 ^ r.length) h3
   rw [Nat.mul_comm (16 ^ r.length) 16, ← Nat.mul_assoc, Nat.mul_comm (u + 1) 16]
   omega
  · cases h
theorem hexP_lt {r : List UInt8} {n v : Nat} (h : hexP r n = some v) : v < 16 ^ n := by
 have hl := hexP_le h
 unfold hexP at h
 rw [if_pos hl] at h
 have := hexF_lt _ _ _ h
 rw [List.length_take, Nat.min_eq_left hl] at this
 omega
theorem Hex_spec (l : List UInt8) (n : Nat) (hn : n ≤ 4) : Ctr Tryd.prog 47 [strV l, intV n] [] (fun w Ps => ∃ v ok, w = .tuple #[.int .i32 ((v : Nat) : Int), .bool ok] ∧ ((ok = true ∧ hexP l n = some v) ∨ (ok = false ∧ hexP l n = none)) ∧ Ps = []) := by
 refine Ctr.of_body Tryd.func47 rfl (by kernel_rfl) Tryd.ntmps47 rfl rfl (fun Fr => ?_)
 refine T.seq fun K1 hK1 => ?_
 refine T.region (l := [0, 1]) rfl ?_
 refine RN.a rfl ?_
 refine RN.a rfl ?_
 refine RN.nil ?_
 refine hK1 _ _ ?_
 refine T.seq fun K2 hK2 => ?_
 refine T.seq fun K3 hK3 => ?_
 refine T.region (l := [0, 1, 2, 3]) rfl ?_
 refine RN.m rfl ?_
 refine RN.p rfl (p_len_s rfl Tryd.underlying9 rfl) ?_
 refine RN.m rfl ?_
 refine RN.p rfl (p_lss rfl rfl rfl) ?_
 refine RN.nil ?_
 refine hK3 _ _ ?_
 first | refine T.cond_dec rfl (fun h13 => ?_) (fun h13 => ?_) | refine T.cond rfl (fun h13 => ?_) (fun h13 => ?_)
 ·
  refine T.seq fun K4 hK4 => ?_
  refine T.region (l := [0, 1]) rfl ?_
  refine RN.a rfl ?_
  refine RN.a rfl ?_
  refine RN.nil ?_
  refine hK4 _ _ ?_
  refine T.ret ?_
  refine Post.seq_r ?_
  refine bodyQ_ret [] (RetRun.tmp (RetRun.tmp RetRun.nil)) ⟨0, false, rfl, .inr ⟨rfl, by unfold hexP; rw [if_neg (by omega)]⟩, rfl⟩ (Ent.refl _)
 ·
  have hnl : n ≤ l.length := by omega
  have htl : (l.take n).length = n := by rw [List.length_take]; omega
  refine T.skip ?_
  refine hK2 _ _ ?_
  refine T.seq fun K5 hK5 => ?_
  refine T.region (l := [0]) rfl ?_
  refine RN.a rfl ?_
  refine RN.nil ?_
  refine hK5 _ _ ?_
  refine T.seq fun K6 hK6 => ?_
  refine T.seq fun K7 hK7 => ?_
  refine T.region (l := [0, 1, 2, 3, 4, 5]) rfl ?_
  refine RN.m rfl ?_
  refine RN.m rfl ?_
  refine RN.p rfl (by first | exact (p_slice_s_hi rfl Tryd.underlying9 rfl rfl (by omega)) | exact (p_sliceN_s (l := 0) rfl Tryd.underlying9 rfl rfl rfl (by omega)) | exact (p_slice_s rfl Tryd.underlying9 rfl rfl rfl (by omega))) ?_
  refine RN.E rfl rfl rfl rfl (e_str_bytes rfl Tryd.underlying9 Tryd.underlying55 Tryd.underlying5 rfl (by omega)) ?_
  rintro _ _ ⟨b17, cap17, hcl17, hcm17, rfl, rfl⟩
  rw [htl] at hcl17 ⊢
  refine RN.p rfl (p_len rfl Tryd.underlying55 rfl) ?_
  refine RN.m rfl ?_
  refine RN.nil ?_
  refine hK7 _ _ ?_
  refine T.block ?_
  refine T.loop (G := Nat × Nat) (fun ⟨i, v⟩ => i ≤ n ∧ hexF 0 (l.take i) = some v ∧ v < 16 ^ i) (fun ⟨i, v⟩ => [(6, .int .i32 (v : Int)), (17, slc b17 0 n cap17), (18, intV n), (19, intV i)]) (fun ⟨i, v⟩ => [row b17 5 ((l.take n).map u8V ++ List.replicate (cap17 - n) (u8V 0)), Fr]) (fun ⟨i, v⟩ => n - i) (0, 0) ⟨Nat.zero_le _, rfl, by decide⟩ (LiveIs.cons rfl (LiveIs.cons rfl (LiveIs.cons rfl (LiveIs.cons rfl LiveIs.nil)))) (Ent.refl _) ?_
  rintro ⟨i, v⟩ e8 ⟨hin, hv, hvi⟩
  dsimp only
  refine T.seq fun K9 hK9 => ?_
  refine T.region (l := [0]) rfl ?_
  refine RN.p rfl (p_lss rfl rfl rfl) ?_
  refine RN.nil ?_
  refine hK9 _ _ ?_
  refine T.seq fun K10 hK10 => ?_
  first | refine T.cond_dec rfl (fun h20 => ?_) (fun h20 => ?_) | refine T.cond rfl (fun h20 => ?_) (fun h20 => ?_)
  ·
   have hlt : i < n := by omega
   refine T.skip ?_
   refine hK10 _ _ ?_
   refine T.seq fun K11 hK11 => ?_
   refine T.block ?_
   refine T.seq fun K12 hK12 => ?_
   refine T.region (l := [0, 1, 2]) rfl ?_
   refine RN.p rfl (by first | exact (p_indexAddr1N rfl Tryd.underlying55 ts_5 rfl rfl (by omega)) | exact (p_indexAddr1 rfl Tryd.underlying55 ts_5 rfl rfl (by omega))) ?_
   refine RN.u rfl (q_load (v := u8V (l[i]'(by omega))) rfl sc_5 rfl (i := 0) rfl (row_at hlt hnl)) ?_
   refine RN.a rfl ?_
   refine RN.nil ?_
   refine hK12 _ _ ?_
   refine T.seq fun K13 hK13 => ?_
   refine T.region (l := [0, 1, 2]) rfl ?_
   refine RN.m rfl ?_
   refine RN.C [] rfl rfl rfl rfl (c_call rfl rfl) (Idx_spec (l[i]'(by omega))) rfl ?_
   rintro _ _ ⟨rfl, rfl⟩
   refine RN.a rfl ?_
   refine RN.nil ?_
   refine hK13 _ _ ?_
   refine T.seq fun K14 hK14 => ?_
   refine T.seq fun K15 hK15 => ?_
   refine T.region (l := [0, 1]) rfl ?_
   refine RN.m rfl ?_
   refine RN.p rfl (p_lss rfl rfl rfl) ?_
   refine RN.nil ?_
   refine hK15 _ _ ?_
   first | refine T.cond_dec rfl (fun h26 => ?_) (fun h26 => ?_) | refine T.cond rfl (fun h26 => ?_) (fun h26 => ?_)
   ·
    refine T.seq fun K16 hK16 => ?_
    refine T.region (l := [0, 1]) rfl ?_
    refine RN.a rfl ?_
    refine RN.a rfl ?_
    refine RN.nil ?_
    refine hK16 _ _ ?_
    refine T.ret ?_
    refine Post.seq_r ?_
    refine Post.block_r ?_
    refine Post.seq_r ?_
    refine Post.seq_r ?_
    refine Post.block_r ?_
    refine Post.seq_r ?_
    refine bodyQ_ret [] (RetRun.tmp (RetRun.tmp RetRun.nil)) ⟨0, false, rfl, .inr ⟨rfl, by unfold hexP; rw [if_pos (by omega)]; exact hexF_bad hlt (by omega) hv h26⟩, rfl⟩ (Ent.pull_drop (is := [1]) rfl)
   ·
    obtain ⟨d, hd⟩ := Int.eq_ofNat_of_zero_le (show 0 ≤ digI (l[i]'(by omega)) by omega)
    have hdl := digI_le (l[i]'(by omega))
    have hpow : 16 ^ i ≤ 16 ^ 3 := Nat.pow_le_pow_right (by omega) (by omega)
    rw [hd]
    refine T.skip ?_
    refine hK14 _ _ ?_
    refine T.region (l := [0, 1, 2, 3, 4, 5]) rfl ?_
    refine RN.m rfl ?_
    refine RN.p rfl (p_mulN32 (a := 16) rfl rfl rfl (by omega)) ?_
    refine RN.m rfl ?_
    refine RN.p rfl (p_conv_i32 rfl Tryd.underlying3 Tryd.underlying21 rfl (by omega)) ?_
    refine RN.p rfl (p_addN32 rfl rfl rfl (by omega)) ?_
    refine RN.a rfl ?_
    refine RN.nil ?_
    refine hK11 _ _ ?_
    refine T.region (l := [0, 1]) rfl ?_
    refine RN.p rfl (by first | exact (p_addN (b := 1) rfl rfl rfl (by omega)) | exact (p_add rfl rfl rfl (by omega))) ?_
    refine RN.m rfl ?_
    refine RN.nil ?_
    refine ⟨(i + 1, 16 * v + d), ⟨hlt, by show hexF 0 (l.take (i + 1)) = some (16 * v + d); rw [hexF_step (by omega) hv, hd, if_pos (by omega)]; rfl, by show 16 * v + d < 16 ^ (i + 1); rw [Nat.pow_succ]; omega⟩, (by show _ - (i + 1) < _ - i; omega), (LiveIs.cons rfl (LiveIs.cons rfl (LiveIs.cons rfl (LiveIs.cons rfl LiveIs.nil)))), Ent.refl _⟩
  ·
   have ein : i = n := by omega
   subst ein
   refine T.exit ?_
   refine Post.seq_x ?_
   refine Post.seq_x ?_
   refine Post.block_hit ?_
   refine hK6 _ _ ?_
   refine T.seq fun K17 hK17 => ?_
   refine T.region (l := [0, 1, 2]) rfl ?_
   refine RN.m rfl ?_
   refine RN.a rfl ?_
   refine RN.a rfl ?_
   refine RN.nil ?_
   refine hK17 _ _ ?_
   refine T.ret ?_
   refine bodyQ_ret [] (RetRun.tmp (RetRun.tmp RetRun.nil)) ⟨v, true, rfl, .inl ⟨rfl, by unfold hexP; rw [if_pos (by omega)]; exact hv⟩, rfl⟩ (Ent.pull_drop (is := [1]) rfl)

theorem ne34 {c : UInt8} (h : ¬ (c.toNat : Int) = 34) : c ≠ 34 := fun g => h (by rw [g]; rfl)
theorem ne92 {c : UInt8} (h : ¬ (c.toNat : Int) = 92) : c ≠ 92 := fun g => h (by rw [g]; rfl)
theorem ne_of {c n : UInt8} (h : ¬ (c.toNat : Int) = (n.toNat : Int)) : c ≠ n := fun g => h (by rw [g])

theorem One_spec (A : Assn) (hA : Glob 1 2 A) (l : List UInt8) (hne : l ≠ []) : Ctr Tryd.prog 32 [strV l] [A] (fun w Ps => ∃ x k, w = .tuple #[strV x, intV k] ∧ OneQ l x k ∧ Ps = [A]) := by
 refine Ctr.of_body Tryd.func32 rfl (by kernel_rfl) Tryd.ntmps32 rfl rfl (fun Fr => ?_)
 have hl0 : 0 < l.length := List.length_pos_iff.2 hne
 have e0 : at0 l 0 = l[0].toNat := at0_get hl0
 have hw := dec_step hl0
 rw [Nat.zero_add] at hw
 refine T.seq fun K1 hK1 => ?_
 refine T.region (l := [0, 1]) rfl ?_
 refine RN.a rfl ?_
 refine RN.a rfl ?_
 refine RN.nil ?_
 refine hK1 _ _ ?_
 refine T.seq fun K2 hK2 => ?_
 refine T.seq fun K3 hK3 => ?_
 refine T.region (l := [0, 1, 2]) rfl ?_
 refine RN.m rfl ?_
 refine RN.p rfl (by first | exact (p_indexN_s (n := 0) rfl Tryd.underlying9 rfl rfl (List.getElem?_eq_getElem hl0)) | exact (p_index_s rfl Tryd.underlying9 rfl rfl (List.getElem?_eq_getElem hl0))) ?_
 refine RN.p rfl (p_neq rfl rfl rfl) ?_
 refine RN.nil ?_
 refine hK3 _ _ ?_
 first | refine T.cond_dec rfl (fun h12 => ?_) (fun h12 => ?_) | refine T.cond rfl (fun h12 => ?_) (fun h12 => ?_)
 ·
  refine T.seq fun K4 hK4 => ?_
  refine T.region (l := [0, 1, 2, 3, 4, 5, 6]) rfl ?_
  refine RN.m rfl ?_
  refine RN.C [0] rfl rfl rfl rfl (c_call rfl rfl) (Dec_spec A hA l hne) rfl ?_
  rintro _ _ ⟨rfl, rfl⟩
  refine RN.m rfl ?_
  refine RN.p rfl (p_extract rfl rfl rfl) ?_
  refine RN.p rfl (p_extract rfl rfl rfl) ?_
  refine RN.a rfl ?_
  refine RN.a rfl ?_
  refine RN.nil ?_
  refine hK4 _ _ ?_
  refine T.seq fun K5 hK5 => ?_
  refine T.region (l := [0, 1, 2, 3, 4, 5]) rfl ?_
  refine RN.m rfl ?_
  refine RN.m rfl ?_
  refine RN.p rfl (by first | exact (p_slice_s_hi rfl Tryd.underlying9 rfl rfl hw.2) | exact (p_sliceN_s (l := 0) rfl Tryd.underlying9 rfl rfl rfl hw.2) | exact (p_slice_s rfl Tryd.underlying9 rfl rfl rfl hw.2)) ?_
  refine RN.m rfl ?_
  refine RN.a rfl ?_
  refine RN.a rfl ?_
  refine RN.nil ?_
  refine hK5 _ _ ?_
  refine T.ret ?_
  refine Post.seq_r ?_
  refine bodyQ_ret [A] (RetRun.tmp (RetRun.tmp RetRun.nil)) ⟨_, _, rfl, one_raw hne (by rw [e0]; omega), rfl⟩ (Ent.refl _)
 ·
  refine T.skip ?_
  refine hK2 _ _ ?_
  refine T.seq fun K6 hK6 => ?_
  refine T.seq fun K7 hK7 => ?_
  refine T.region (l := [0, 1, 2]) rfl ?_
  refine RN.m rfl ?_
  refine RN.p rfl (p_len_s rfl Tryd.underlying9 rfl) ?_
  refine RN.p rfl (p_lss rfl rfl rfl) ?_
  refine RN.nil ?_
  refine hK7 _ _ ?_
  first | refine T.cond_dec rfl (fun h24 => ?_) (fun h24 => ?_) | refine T.cond rfl (fun h24 => ?_) (fun h24 => ?_)
  ·
   refine T.seq fun K8 hK8 => ?_
   refine T.region (l := [0, 1]) rfl ?_
   refine RN.a rfl ?_
   refine RN.a rfl ?_
   refine RN.nil ?_
   refine hK8 _ _ ?_
   refine T.ret ?_
   refine Post.seq_r ?_
   refine bodyQ_ret [A] (RetRun.tmp (RetRun.tmp RetRun.nil)) ⟨[], 0, rfl, one_short (by rw [e0]; omega) (by omega), rfl⟩ (Ent.refl _)
  ·
   obtain ⟨c, r, rfl⟩ := two_of (l := l) (by rw [e0]; omega) (by omega)
   refine T.skip ?_
   refine hK6 _ _ ?_
   refine T.seq fun K9 hK9 => ?_
   refine T.seq fun K10 hK10 => ?_
   refine T.region (l := [0, 1]) rfl ?_
   refine RN.m rfl ?_
   refine RN.p rfl (p_indexN_s (n := 1) (b := c) rfl Tryd.underlying9 rfl rfl rfl) ?_
   refine RN.nil ?_
   refine hK10 _ _ ?_
   refine T.block ?_
   refine T.seq fun K11 hK11 => ?_
   refine T.seq fun K12 hK12 => ?_
   refine T.region (l := [0, 1]) rfl ?_
   refine RN.p rfl (p_eql rfl rfl rfl) ?_
   refine RN.a rfl ?_
   refine RN.nil ?_
   refine hK12 _ _ ?_
   first | refine T.cond_dec rfl (fun h27 => ?_) (fun h27 => ?_) | refine T.cond rfl (fun h27 => ?_) (fun h27 => ?_)
   ·
    first | refine T.known 27 rfl (congrArg Value.bool (decide_eq_true h27)) ?_ | refine T.known 27 rfl (congrArg Value.bool h27) ?_
    refine T.skip ?_
    refine hK11 _ _ ?_
    refine T.cond_t rfl ?_
    refine T.seq fun K13 hK13 => ?_
    refine T.region (l := [0, 1, 2, 3]) rfl ?_
    refine RN.m rfl ?_
    refine RN.p rfl (by first | exact (p_sliceN_s (l := 1) (h := 2) rfl Tryd.underlying9 rfl rfl rfl (by simp)) | exact (p_slice_s rfl Tryd.underlying9 rfl rfl rfl (by simp))) ?_
    refine RN.a rfl ?_
    refine RN.a rfl ?_
    refine RN.nil ?_
    refine hK13 _ _ ?_
    refine T.ret ?_
    refine Post.block_r ?_
    refine Post.seq_r ?_
    refine bodyQ_ret [A] (RetRun.tmp (RetRun.tmp RetRun.nil)) ⟨[c], 2, rfl, one_pair (by first | exact .inl ⟨u8_of (n := 34) (by rw [h27]; rfl), u8_of (n := 34) (by rw [h27]; rfl)⟩ | exact .inr (.inl ⟨u8_of (n := 92) (by rw [h27]; rfl), u8_of (n := 92) (by rw [h27]; rfl)⟩)), rfl⟩ (Ent.refl _)
   ·
    first | refine T.known 27 rfl (congrArg Value.bool (decide_eq_false h27)) ?_ | refine T.known 27 rfl (congrArg Value.bool h27) ?_
    refine T.region (l := [0, 1]) rfl ?_
    refine RN.p rfl (p_eql rfl rfl rfl) ?_
    refine RN.a rfl ?_
    refine RN.nil ?_
    refine hK11 _ _ ?_
    first | refine T.cond_dec rfl (fun h27 => ?_) (fun h27 => ?_) | refine T.cond rfl (fun h27 => ?_) (fun h27 => ?_)
    ·
     first | refine T.known 27 rfl (congrArg Value.bool (decide_eq_true h27)) ?_ | refine T.known 27 rfl (congrArg Value.bool h27) ?_
     refine T.seq fun K14 hK14 => ?_
     refine T.region (l := [0, 1, 2, 3]) rfl ?_
     refine RN.m rfl ?_
     refine RN.p rfl (by first | exact (p_sliceN_s (l := 1) (h := 2) rfl Tryd.underlying9 rfl rfl rfl (by simp)) | exact (p_slice_s rfl Tryd.underlying9 rfl rfl rfl (by simp))) ?_
     refine RN.a rfl ?_
     refine RN.a rfl ?_
     refine RN.nil ?_
     refine hK14 _ _ ?_
     refine T.ret ?_
     refine Post.block_r ?_
     refine Post.seq_r ?_
     refine bodyQ_ret [A] (RetRun.tmp (RetRun.tmp RetRun.nil)) ⟨[c], 2, rfl, one_pair (by first | exact .inl ⟨u8_of (n := 34) (by rw [h27]; rfl), u8_of (n := 34) (by rw [h27]; rfl)⟩ | exact .inr (.inl ⟨u8_of (n := 92) (by rw [h27]; rfl), u8_of (n := 92) (by rw [h27]; rfl)⟩)), rfl⟩ (Ent.refl _)
    ·
     first | refine T.known 27 rfl (congrArg Value.bool (decide_eq_false h27)) ?_ | refine T.known 27 rfl (congrArg Value.bool h27) ?_
     refine T.seq fun K15 hK15 => ?_
     refine T.region (l := [0, 1]) rfl ?_
     refine RN.p rfl (p_eql rfl rfl rfl) ?_
     refine RN.a rfl ?_
     refine RN.nil ?_
     refine hK15 _ _ ?_
     first | refine T.cond_dec rfl (fun h32 => ?_) (fun h32 => ?_) | refine T.cond rfl (fun h32 => ?_) (fun h32 => ?_)
     ·
      refine T.seq fun K16 hK16 => ?_
      refine T.region (l := [0, 1]) rfl ?_
      refine RN.a rfl ?_
      refine RN.a rfl ?_
      refine RN.nil ?_
      refine hK16 _ _ ?_
      refine T.ret ?_
      refine Post.block_r ?_
      refine Post.seq_r ?_
      refine bodyQ_ret [A] (RetRun.tmp (RetRun.tmp RetRun.nil)) ⟨[10], 2, rfl, one_pair (.inr (.inr (.inl ⟨u8_of (n := 110) (by rw [h32]; rfl), rfl⟩))), rfl⟩ (Ent.refl _)
     ·
      refine T.seq fun K17 hK17 => ?_
      refine T.region (l := [0, 1]) rfl ?_
      refine RN.p rfl (p_eql rfl rfl rfl) ?_
      refine RN.a rfl ?_
      refine RN.nil ?_
      refine hK17 _ _ ?_
      first | refine T.cond_dec rfl (fun h34 => ?_) (fun h34 => ?_) | refine T.cond rfl (fun h34 => ?_) (fun h34 => ?_)
      ·
       refine T.seq fun K18 hK18 => ?_
       refine T.region (l := [0, 1]) rfl ?_
       refine RN.a rfl ?_
       refine RN.a rfl ?_
       refine RN.nil ?_
       refine hK18 _ _ ?_
       refine T.ret ?_
       refine Post.block_r ?_
       refine Post.seq_r ?_
       refine bodyQ_ret [A] (RetRun.tmp (RetRun.tmp RetRun.nil)) ⟨[9], 2, rfl, one_pair (.inr (.inr (.inr (.inl ⟨u8_of (n := 116) (by rw [h34]; rfl), rfl⟩)))), rfl⟩ (Ent.refl _)
      ·
       refine T.seq fun K19 hK19 => ?_
       refine T.region (l := [0, 1]) rfl ?_
       refine RN.p rfl (p_eql rfl rfl rfl) ?_
       refine RN.a rfl ?_
       refine RN.nil ?_
       refine hK19 _ _ ?_
       first | refine T.cond_dec rfl (fun h36 => ?_) (fun h36 => ?_) | refine T.cond rfl (fun h36 => ?_) (fun h36 => ?_)
       ·
        refine T.seq fun K20 hK20 => ?_
        refine T.region (l := [0, 1]) rfl ?_
        refine RN.a rfl ?_
        refine RN.a rfl ?_
        refine RN.nil ?_
        refine hK20 _ _ ?_
        refine T.ret ?_
        refine Post.block_r ?_
        refine Post.seq_r ?_
        refine bodyQ_ret [A] (RetRun.tmp (RetRun.tmp RetRun.nil)) ⟨[0], 2, rfl, one_pair (.inr (.inr (.inr (.inr ⟨u8_of (n := 48) (by rw [h36]; rfl), rfl⟩)))), rfl⟩ (Ent.refl _)
       ·
        refine T.seq fun K21 hK21 => ?_
        refine T.region (l := [0, 1]) rfl ?_
        refine RN.p rfl (p_eql rfl rfl rfl) ?_
        refine RN.a rfl ?_
        refine RN.nil ?_
        refine hK21 _ _ ?_
        first | refine T.cond_dec rfl (fun h38 => ?_) (fun h38 => ?_) | refine T.cond rfl (fun h38 => ?_) (fun h38 => ?_)
        ·
         refine T.seq fun K22 hK22 => ?_
         refine T.region (l := [0, 1, 2, 3, 4, 5, 6, 7]) rfl ?_
         refine RN.m rfl ?_
         refine RN.p rfl (by first | exact (p_slice_s_lo (l := 2) rfl Tryd.underlying9 rfl rfl (by simp)) | exact (p_sliceN_s (l := 2) rfl Tryd.underlying9 rfl rfl rfl (by simp)) | exact (p_slice_s rfl Tryd.underlying9 rfl rfl rfl (by simp))) ?_
         refine RN.C [] rfl rfl rfl rfl (c_call rfl rfl) (Hex_spec r 2 (by omega)) rfl ?_
         rintro _ _ ⟨v, ok, rfl, hx, rfl⟩
         refine RN.m rfl ?_
         refine RN.p rfl (p_extract rfl rfl rfl) ?_
         refine RN.p rfl (p_extract rfl rfl rfl) ?_
         refine RN.a rfl ?_
         refine RN.a rfl ?_
         refine RN.nil ?_
         refine hK22 _ _ ?_
         refine T.seq fun K23 hK23 => ?_
         refine T.region (l := [0]) rfl ?_
         refine RN.m rfl ?_
         refine RN.nil ?_
         refine hK23 _ _ ?_
         first | refine T.cond_dec rfl (fun h46 => ?_) (fun h46 => ?_) | refine T.cond rfl (fun h46 => ?_) (fun h46 => ?_)
         ·
          rcases hx with ⟨_, hx2⟩ | ⟨hx1, _⟩
          rotate_left
          · cases hx1.symm.trans h46
          have hv256 : v < 256 := hexP_lt hx2
          refine T.seq fun K24 hK24 => ?_
          refine T.region (l := [0, 1, 2, 3, 4, 5]) rfl ?_
          refine RN.m rfl ?_
          refine RN.p rfl (p_conv_u8 rfl Tryd.underlying21 Tryd.underlying5 rfl (by omega)) ?_
          rw [u8_val hv256]
          refine RN.E rfl rfl rfl rfl (e_buildSlice1 rfl Tryd.underlying55 ti_5 rfl (by conv => lhs; whnf) rfl) ?_
          rintro _ _ ⟨b49, rfl, rfl⟩
          refine RN.u rfl (q_bytes_str (l := [UInt8.ofNat v]) rfl Tryd.underlying55 Tryd.underlying5 Tryd.underlying9 rfl (i := 0) rfl (by simp) rfl) ?_
          refine RN.a rfl ?_
          refine RN.a rfl ?_
          refine RN.nil ?_
          refine hK24 _ _ ?_
          refine T.ret ?_
          refine Post.block_r ?_
          refine Post.seq_r ?_
          obtain rfl := u8_of (n := 120) (by rw [h38]; rfl)
          refine bodyQ_ret [A] (RetRun.tmp (RetRun.tmp RetRun.nil)) ⟨[UInt8.ofNat v], 4, rfl, one_x hx2, rfl⟩ (Ent.pull_drop (is := [1, 1]) rfl)
         ·
          rcases hx with ⟨hx1, _⟩ | ⟨_, hx2⟩
          · cases hx1.symm.trans h46
          refine T.skip ?_
          refine hK9 _ _ ?_
          refine T.seq fun K25 hK25 => ?_
          refine T.region (l := [0, 1]) rfl ?_
          refine RN.a rfl ?_
          refine RN.a rfl ?_
          refine RN.nil ?_
          refine hK25 _ _ ?_
          refine T.ret ?_
          obtain rfl := u8_of (n := 120) (by rw [h38]; rfl)
          refine bodyQ_ret [A] (RetRun.tmp (RetRun.tmp RetRun.nil)) ⟨[], 0, rfl, one_x0 hx2, rfl⟩ (Ent.refl _)
        ·
         refine T.seq fun K26 hK26 => ?_
         refine T.region (l := [0, 1]) rfl ?_
         refine RN.p rfl (p_eql rfl rfl rfl) ?_
         refine RN.a rfl ?_
         refine RN.nil ?_
         refine hK26 _ _ ?_
         first | refine T.cond_dec rfl (fun h51 => ?_) (fun h51 => ?_) | refine T.cond rfl (fun h51 => ?_) (fun h51 => ?_)
         ·
          refine T.seq fun K27 hK27 => ?_
          refine T.region (l := [0, 1, 2, 3, 4, 5, 6, 7]) rfl ?_
          refine RN.m rfl ?_
          refine RN.p rfl (by first | exact (p_slice_s_lo (l := 2) rfl Tryd.underlying9 rfl rfl (by simp)) | exact (p_sliceN_s (l := 2) rfl Tryd.underlying9 rfl rfl rfl (by simp)) | exact (p_slice_s rfl Tryd.underlying9 rfl rfl rfl (by simp))) ?_
          refine RN.C [] rfl rfl rfl rfl (c_call rfl rfl) (Hex_spec r 4 (by omega)) rfl ?_
          rintro _ _ ⟨v, ok, rfl, hx, rfl⟩
          refine RN.m rfl ?_
          refine RN.p rfl (p_extract rfl rfl rfl) ?_
          refine RN.p rfl (p_extract rfl rfl rfl) ?_
          refine RN.a rfl ?_
          refine RN.a rfl ?_
          refine RN.nil ?_
          refine hK27 _ _ ?_
          refine T.seq fun K28 hK28 => ?_
          refine T.region (l := [0]) rfl ?_
          refine RN.m rfl ?_
          refine RN.nil ?_
          refine hK28 _ _ ?_
          first | refine T.cond_dec rfl (fun h59 => ?_) (fun h59 => ?_) | refine T.cond rfl (fun h59 => ?_) (fun h59 => ?_)
          ·
           rcases hx with ⟨_, hx2⟩ | ⟨hx1, _⟩
           rotate_left
           · cases hx1.symm.trans h59
           refine T.seq fun K29 hK29 => ?_
           refine T.region (l := [0, 1, 2, 3]) rfl ?_
           refine RN.m rfl ?_
           refine RN.p rfl (p_runeStr rfl Tryd.underlying21 Tryd.underlying9 rfl) ?_
           refine RN.a rfl ?_
           refine RN.a rfl ?_
           refine RN.nil ?_
           refine hK29 _ _ ?_
           refine T.ret ?_
           refine Post.block_r ?_
           refine Post.seq_r ?_
           obtain rfl := u8_of (n := 117) (by rw [h51]; rfl)
           refine bodyQ_ret [A] (RetRun.tmp (RetRun.tmp RetRun.nil)) ⟨enc v, 6, rfl, one_u hx2 (fun _ => rfl) (List.length_pos_iff.1 enc_len1.1) (by have := enc_len1 (r := v); omega), rfl⟩ (Ent.refl _)
          ·
           rcases hx with ⟨hx1, _⟩ | ⟨_, hx2⟩
           · cases hx1.symm.trans h59
           refine T.skip ?_
           refine hK9 _ _ ?_
           refine T.seq fun K30 hK30 => ?_
           refine T.region (l := [0, 1]) rfl ?_
           refine RN.a rfl ?_
           refine RN.a rfl ?_
           refine RN.nil ?_
           refine hK30 _ _ ?_
           refine T.ret ?_
           obtain rfl := u8_of (n := 117) (by rw [h51]; rfl)
           refine bodyQ_ret [A] (RetRun.tmp (RetRun.tmp RetRun.nil)) ⟨[], 0, rfl, one_u0 hx2, rfl⟩ (Ent.refl _)
         ·
          refine T.skip ?_
          refine hK9 _ _ ?_
          refine T.seq fun K31 hK31 => ?_
          refine T.region (l := [0, 1]) rfl ?_
          refine RN.a rfl ?_
          refine RN.a rfl ?_
          refine RN.nil ?_
          refine hK31 _ _ ?_
          refine T.ret ?_
          refine bodyQ_ret [A] (RetRun.tmp (RetRun.tmp RetRun.nil)) ⟨[], 0, rfl, one_other (ne34 (by assumption)) (ne92 (by assumption)) (ne_of h32) (ne_of h34) (ne_of h36) (ne_of h38) (ne_of h51), rfl⟩ (Ent.refl _)

end Go.Proofs.YtokbjejbgbdkoaaDoor
namespace Go.Proofs.YtokbjejbgbdkoaaDoor
open Go Go.Sl Go.Proofs
set_option maxRecDepth 20000
open Go.Mo Go.Proofs Go.Shelf Go.RowKit
theorem LHas_spec (l p : List UInt8) : Ctr Tryd.prog 43 [strV l, strV p] [] (fun w Ps => w = .bool (decide (p.length ≤ l.length ∧ l.take p.length = p)) ∧ Ps = []) := by
 refine Ctr.of_body Tryd.func43 rfl (by kernel_rfl) Tryd.ntmps43 rfl rfl (fun Fr => ?_)
 refine T.seq fun K1 hK1 => ?_
 refine T.region (l := [0]) rfl ?_
 refine RN.a rfl ?_
 refine RN.nil ?_
 refine hK1 _ _ ?_
 refine T.seq fun K2 hK2 => ?_
 refine T.region (l := [0, 1, 2, 3, 4, 5, 6, 7, 8, 9, 10, 11, 12, 13]) rfl ?_
 refine RN.m rfl ?_
 refine RN.p rfl (p_len_s rfl Tryd.underlying9 rfl) ?_
 refine RN.m rfl ?_
 refine RN.p rfl (p_len_s rfl Tryd.underlying9 rfl) ?_
 refine RN.p rfl (p_geq rfl rfl rfl) ?_
 refine RN.m rfl ?_
 first | refine RN.split_dec 10 rfl (fun h10 => ?_) (fun h10 => ?_) | refine RN.split 10 rfl (fun h10 => ?_) (fun h10 => ?_)
 ·
  refine RN.m rfl ?_
  refine RN.m rfl ?_
  refine RN.p rfl (p_len_s rfl Tryd.underlying9 rfl) ?_
  refine RN.p rfl (by first | exact (p_slice_s_hi rfl Tryd.underlying9 rfl rfl (by omega)) | exact (p_sliceN_s (l := 0) rfl Tryd.underlying9 rfl rfl rfl (by omega)) | exact (p_slice_s rfl Tryd.underlying9 rfl rfl rfl (by omega))) ?_
  refine RN.m rfl ?_
  refine RN.p rfl (p_seql rfl rfl rfl) ?_
  refine RN.pt rfl ?_
  refine RN.a rfl ?_
  refine RN.nil ?_
  refine hK2 _ _ ?_
  refine T.ret ?_
  refine bodyQ_ret [] (RetRun.tmp RetRun.nil) ⟨congrArg Value.bool (decide_eq_decide.2 ⟨fun g => ⟨by omega, g⟩, fun g => g.2⟩), rfl⟩ (Ent.refl _)
 ·
  refine RN.no0 rfl ?_
  refine RN.no0 rfl ?_
  refine RN.no0 rfl ?_
  refine RN.no0 rfl ?_
  refine RN.no0 rfl ?_
  refine RN.no0 rfl ?_
  refine RN.pf rfl ?_
  refine RN.a rfl ?_
  refine RN.nil ?_
  refine hK2 _ _ ?_
  refine T.ret ?_
  refine bodyQ_ret [] (RetRun.tmp RetRun.nil) ⟨congrArg Value.bool (decide_eq_false (fun g => h10 (by have := g.1; omega))).symm, rfl⟩ (Ent.refl _)

theorem Has_spec (l p : List UInt8) : Ctr Tryd.prog 30 [strV l, strV p] [] (fun w Ps => w = .bool (decide (p.length ≤ l.length ∧ l.take p.length = p)) ∧ Ps = []) := by
 refine Ctr.of_body Tryd.func30 rfl (by kernel_rfl) Tryd.ntmps30 rfl rfl (fun Fr => ?_)
 refine T.seq fun K1 hK1 => ?_
 refine T.region (l := [0]) rfl ?_
 refine RN.a rfl ?_
 refine RN.nil ?_
 refine hK1 _ _ ?_
 refine T.seq fun K2 hK2 => ?_
 refine T.region (l := [0, 1, 2, 3]) rfl ?_
 refine RN.m rfl ?_
 refine RN.m rfl ?_
 refine RN.C [] rfl rfl rfl rfl (c_call rfl rfl) (LHas_spec l p) rfl ?_
 rintro _ _ ⟨rfl, rfl⟩
 refine RN.a rfl ?_
 refine RN.nil ?_
 refine hK2 _ _ ?_
 refine T.ret ?_
 refine bodyQ_ret [] (RetRun.tmp RetRun.nil) ⟨rfl, rfl⟩ (Ent.refl _)

theorem has34 {l : List UInt8} : (([34] : List UInt8).length ≤ l.length ∧ l.take ([34] : List UInt8).length = [34]) ↔ at0 l 0 = 34 := by
 cases l with
 | nil => exact ⟨fun h => absurd h.1 (by decide), fun h => absurd (show (0 : Nat) = 34 from h) (by decide)⟩
 | cons a r =>
  constructor
  ·
   rintro ⟨_, h⟩
   have h : [a] = [34] := h
   injection h with h
   subst h
   rfl
  ·
   intro h
   have ha : a = 34 := UInt8.toNat_inj.1 h
   subst ha
   exact ⟨by simp, rfl⟩

theorem Read_spec (A : Assn) (hA : Glob 1 2 A) (l : List UInt8) (hl : l.length ≤ 100000000) : Ctr Tryd.prog 23 [strV l] [A] (fun w Ps => ∃ s n e, w = .tuple #[strV s, intV n, intV e] ∧ RdQ l s n e ∧ s.length ≤ l.length ∧ Ps = [A]) := by
 refine Ctr.of_body Tryd.func23 rfl (by kernel_rfl) Tryd.ntmps23 rfl rfl (fun Fr => ?_)
 refine T.seq fun K1 hK1 => ?_
 refine T.region (l := [0, 1, 2]) rfl ?_
 refine RN.a rfl ?_
 refine RN.a rfl ?_
 refine RN.a rfl ?_
 refine RN.nil ?_
 refine hK1 _ _ ?_
 refine T.seq fun K2 hK2 => ?_
 refine T.seq fun K3 hK3 => ?_
 refine T.region (l := [0, 1, 2]) rfl ?_
 refine RN.m rfl ?_
 refine RN.C [] rfl rfl rfl rfl (c_call rfl rfl) (Has_spec l [34]) rfl ?_
 rintro _ _ ⟨rfl, rfl⟩
 refine RN.p rfl (by first | exact (p_not_dec rfl rfl) | exact (p_not rfl rfl)) ?_
 refine RN.nil ?_
 refine hK3 _ _ ?_
 first | refine T.cond_dec rfl (fun h12 => ?_) (fun h12 => ?_) | refine T.cond rfl (fun h12 => ?_) (fun h12 => ?_)
 ·
  refine T.seq fun K4 hK4 => ?_
  refine T.region (l := [0, 1, 2]) rfl ?_
  refine RN.a rfl ?_
  refine RN.a rfl ?_
  refine RN.a rfl ?_
  refine RN.nil ?_
  refine hK4 _ _ ?_
  refine T.ret ?_
  refine Post.seq_r ?_
  refine bodyQ_ret [A] (RetRun.tmp (RetRun.tmp (RetRun.tmp RetRun.nil))) ⟨[], 0, 3, rfl, .inr ⟨rfl, rfl, rfl, none_head (fun g => h12 (has34.2 g))⟩, Nat.zero_le _, rfl⟩ (Ent.refl _)
 ·
  have h34 := has34.1 (Classical.not_not.1 h12)
  have hl1 : 1 ≤ l.length := by
   rcases Nat.eq_zero_or_pos l.length with g | g
   ·
    obtain rfl := List.eq_nil_of_length_eq_zero g
    exact absurd (show (0 : Nat) = 34 from h34) (by decide)
   · exact g
  refine T.skip ?_
  refine hK2 _ _ ?_
  refine T.seq fun K5 hK5 => ?_
  refine T.region (l := [0]) rfl ?_
  refine RN.E rfl rfl rfl rfl (e_alloc rfl ti_57) ?_
  rintro _ _ ⟨b5, rfl, rfl⟩
  refine RN.nil ?_
  refine hK5 _ _ ?_
  refine T.cut (G := Unit) (fun ⟨⟩ => NoneR l) (fun ⟨⟩ => []) (fun ⟨⟩ => [A, Fr]) ?_ ?_
  ·
   refine T.seq fun K7 hK7 => ?_
   refine T.ent (bld_new (el := 5)) ?_
   refine T.region (l := [0]) rfl ?_
   refine RN.a rfl ?_
   refine RN.nil ?_
   refine hK7 _ _ ?_
   refine T.block ?_
   refine T.loop (G := Nat × List UInt8) (fun ⟨i, q⟩ => 1 ≤ i ∧ i ≤ l.length ∧ q.length ≤ i ∧ InvR l i q) (fun ⟨i, q⟩ => [(0, strV l), (5, ptr b5 0), (6, intV i)]) (fun ⟨i, q⟩ => [bld 57 5 b5 (q), A, Fr]) (fun ⟨i, q⟩ => l.length - i) (1, []) ⟨Nat.le_refl _, hl1, Nat.zero_le _, inv_init⟩ (LiveIs.cons rfl (LiveIs.cons rfl (LiveIs.cons rfl LiveIs.nil))) (Ent.refl _) ?_
   rintro ⟨i, q⟩ e8 ⟨hi1, hil, hqi, hinv⟩
   dsimp only
   refine T.seq fun K9 hK9 => ?_
   refine T.seq fun K10 hK10 => ?_
   refine T.region (l := [0, 1, 2, 3]) rfl ?_
   refine RN.m rfl ?_
   refine RN.m rfl ?_
   refine RN.p rfl (p_len_s rfl Tryd.underlying9 rfl) ?_
   refine RN.p rfl (p_lss rfl rfl rfl) ?_
   refine RN.nil ?_
   refine hK10 _ _ ?_
   first | refine T.cond_dec rfl (fun h16 => ?_) (fun h16 => ?_) | refine T.cond rfl (fun h16 => ?_) (fun h16 => ?_)
   ·
    have hlt : i < l.length := by omega
    have hne : l.drop i ≠ [] := fun g => by have := congrArg List.length g; rw [List.length_drop] at this; simp at this; omega
    refine T.skip ?_
    refine hK9 _ _ ?_
    refine T.block ?_
    refine T.seq fun K11 hK11 => ?_
    refine T.seq fun K12 hK12 => ?_
    refine T.region (l := [0, 1, 2, 3]) rfl ?_
    refine RN.m rfl ?_
    refine RN.m rfl ?_
    refine RN.p rfl (by first | exact (p_indexN_s rfl Tryd.underlying9 rfl rfl (List.getElem?_eq_getElem hlt)) | exact (p_index_s rfl Tryd.underlying9 rfl rfl (List.getElem?_eq_getElem hlt))) ?_
    refine RN.p rfl (p_eql rfl rfl rfl) ?_
    refine RN.nil ?_
    refine hK12 _ _ ?_
    first | refine T.cond_dec rfl (fun h20 => ?_) (fun h20 => ?_) | refine T.cond rfl (fun h20 => ?_) (fun h20 => ?_)
    ·
     have hc34 : at0 l i = 34 := by rw [at0_get hlt]; omega
     refine T.seq fun K13 hK13 => ?_
     refine T.seq fun K14 hK14 => ?_
     refine T.region (l := [0, 1]) rfl ?_
     refine RN.C [0] rfl rfl rfl rfl (c_call rfl rfl) (StringS_spec b5 q (by omega)) rfl ?_
     rintro _ _ ⟨rfl, rfl⟩
     refine RN.a rfl ?_
     refine RN.nil ?_
     refine hK14 _ _ ?_
     refine T.seq fun K15 hK15 => ?_
     refine T.regionD (z := 1) (Bs := _) (l := [(0, .pure), (2, .pure), (3, .pure), (4, .pure), (5, .pure), (1, .eff), (6, .pure)]) mixed (by kernel_rfl) (Ent.refl _) ?_
     refine RD.n rfl (p_move rfl (by conv => lhs; whnf)) ?_
     refine RD.n rfl (p_move rfl (by conv => lhs; whnf)) ?_
     refine RD.n rfl (p_move rfl (by conv => lhs; whnf)) ?_
     refine RD.n rfl (by first | exact (p_addN (b := 1) rfl rfl rfl (by omega)) | exact (p_add rfl rfl rfl (by omega))) ?_
     refine RD.n rfl (by first | exact (p_slice_s_hi rfl Tryd.underlying9 rfl rfl (by omega)) | exact (p_sliceN_s (l := 0) rfl Tryd.underlying9 rfl rfl rfl (by omega)) | exact (p_slice_s rfl Tryd.underlying9 rfl rfl rfl (by omega))) ?_
     refine RD.C [0] rfl rfl rfl rfl (c_call rfl rfl) (Quote_spec A hA q (by omega)) rfl (fun _ _ _ => .inr rfl) ?_
     rintro _ _ ⟨rfl, rfl⟩
     refine RD.n rfl (p_seql rfl rfl rfl) ?_
     refine RD.nil ?_
     refine hK15 _ _ ?_
     first | refine T.cond_dec rfl (fun h28 => ?_) (fun h28 => ?_) | refine T.cond rfl (fun h28 => ?_) (fun h28 => ?_)
     ·
      refine T.seq fun K16 hK16 => ?_
      refine T.region (l := [0, 1, 2, 3, 4, 5]) rfl ?_
      refine RN.m rfl ?_
      refine RN.m rfl ?_
      refine RN.p rfl (by first | exact (p_addN (b := 1) rfl rfl rfl (by omega)) | exact (p_add rfl rfl rfl (by omega))) ?_
      refine RN.a rfl ?_
      refine RN.a rfl ?_
      refine RN.a rfl ?_
      refine RN.nil ?_
      refine hK16 _ _ ?_
      refine T.ret ?_
      refine Post.seq_r ?_
      refine Post.seq_r ?_
      refine Post.block_r ?_
      refine Post.seq_r ?_
      refine Post.block_r ?_
      refine Post.seq_r ?_
      refine bodyQ_ret [A] (RetRun.tmp (RetRun.tmp (RetRun.tmp RetRun.nil))) ⟨q, i + 1, 0, rfl, rd_yes hlt h28, by omega, rfl⟩ (Ent.refl _)
     ·
      refine T.skip ?_
      refine hK13 _ _ ?_
      refine T.exit ?_
      refine Post.seq_x ?_
      refine Post.block_miss rfl ?_
      refine Post.seq_x ?_
      refine Post.block_hit ?_
      refine ⟨(), (inv_fail hinv hc34 h28), LiveIs.nil, (Ent.refl _)⟩
    ·
     have hn34 : at0 l i ≠ 34 := by rw [at0_get hlt]; omega
     refine T.skip ?_
     refine hK11 _ _ ?_
     refine T.seq fun K17 hK17 => ?_
     refine T.region (l := [0, 1, 2, 3, 4, 5, 6, 7, 8]) rfl ?_
     refine RN.m rfl ?_
     refine RN.m rfl ?_
     refine RN.p rfl (by first | exact (p_slice_s_lo rfl Tryd.underlying9 rfl rfl (by omega)) | exact (p_sliceN_s rfl Tryd.underlying9 rfl rfl rfl (by omega)) | exact (p_slice_s rfl Tryd.underlying9 rfl rfl rfl (by omega))) ?_
     refine RN.C [1] rfl rfl rfl rfl (c_call rfl rfl) (One_spec A hA (l.drop i) hne) rfl ?_
     rintro _ _ ⟨x, k, rfl, ho, rfl⟩
     refine RN.m rfl ?_
     refine RN.p rfl (p_extract rfl rfl rfl) ?_
     refine RN.p rfl (p_extract rfl rfl rfl) ?_
     refine RN.a rfl ?_
     refine RN.a rfl ?_
     refine RN.nil ?_
     refine hK17 _ _ ?_
     refine T.seq fun K18 hK18 => ?_
     refine T.seq fun K19 hK19 => ?_
     refine T.region (l := [0, 1]) rfl ?_
     refine RN.m rfl ?_
     refine RN.p rfl (p_eql rfl rfl rfl) ?_
     refine RN.nil ?_
     refine hK19 _ _ ?_
     first | refine T.cond_dec rfl (fun h40 => ?_) (fun h40 => ?_) | refine T.cond rfl (fun h40 => ?_) (fun h40 => ?_)
     ·
      refine T.exit ?_
      refine Post.seq_x ?_
      refine Post.block_miss rfl ?_
      refine Post.seq_x ?_
      refine Post.block_hit ?_
      refine ⟨(), (inv_zero (x := x) hinv hn34 (by rw [show k = 0 from by omega] at ho; exact ho)), LiveIs.nil, (Ent.pull_drop (is := [0, 1]) rfl)⟩
     ·
      have hol := ho.le
      have hox := ho.len
      rw [List.length_drop] at hol
      refine T.skip ?_
      refine hK18 _ _ ?_
      refine T.seq fun K20 hK20 => ?_
      refine T.region (l := [0, 1]) rfl ?_
      refine RN.m rfl ?_
      refine RN.C [1] rfl rfl rfl rfl (c_call rfl rfl) (WriteS_spec b5 q x (ho.ne (by omega)) (by omega)) rfl ?_
      rintro _ _ ⟨rfl, rfl⟩
      refine RN.nil ?_
      refine hK20 _ _ ?_
      refine T.region (l := [0, 1, 2, 3]) rfl ?_
      refine RN.m rfl ?_
      refine RN.m rfl ?_
      refine RN.p rfl (by first | exact (p_addN rfl rfl rfl (by omega)) | exact (p_add rfl rfl rfl (by omega))) ?_
      refine RN.a rfl ?_
      refine RN.nil ?_
      refine ⟨(i + k, q ++ x), ⟨by omega, by omega, by rw [List.length_append]; omega, inv_step hinv hn34 ho⟩, (by show _ - (i + k) < _ - i; omega), (LiveIs.cons rfl (LiveIs.cons rfl (LiveIs.cons rfl LiveIs.nil))), Ent.refl _⟩
   ·
    refine T.exit ?_
    refine Post.seq_x ?_
    refine Post.seq_x ?_
    refine Post.block_hit ?_
    refine ⟨(), (inv_end hinv (by omega)), LiveIs.nil, (Ent.pull_drop (is := [1, 1]) rfl)⟩
  ·
   rintro ⟨⟩ e6 hnone
   refine T.seq fun K21 hK21 => ?_
   refine T.region (l := [0, 1, 2]) rfl ?_
   refine RN.a rfl ?_
   refine RN.a rfl ?_
   refine RN.a rfl ?_
   refine RN.nil ?_
   refine hK21 _ _ ?_
   refine T.ret ?_
   refine bodyQ_ret [A] (RetRun.tmp (RetRun.tmp (RetRun.tmp RetRun.nil))) ⟨[], 0, 3, rfl, .inr ⟨rfl, rfl, rfl, hnone⟩, Nat.zero_le _, rfl⟩ (Ent.refl _)

end Go.Proofs.YtokbjejbgbdkoaaDoor
