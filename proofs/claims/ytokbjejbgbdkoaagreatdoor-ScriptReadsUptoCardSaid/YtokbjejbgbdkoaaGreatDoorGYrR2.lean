/-
 The reference of told texts: walked.
-/
import Derived.Test.YtokbjejbgbdkoaaGreatDoorGYrR1
set_option linter.unusedVariables false
set_option linter.unusedSimpArgs false
namespace Go.Proofs.YtokbjejbgbdkoaaGreatDoor
open Go Go.Sl Go.Proofs
set_option maxRecDepth 20000
open Go.Mo Go.Proofs Go.Shelf Go.RowKit
theorem qstep2 {l q X : List UInt8} {p : Nat} (hp : p < l.length) (h : q ++ qI (l.drop p) = X) : (q ++ pcB (l.drop p)) ++ qI (l.drop (p + wdB (l.drop p))) = X := by
 have e : wdB (l.drop p) = (dec l p).2 := by unfold wdB; rw [dec_drop]
 rw [e]
 exact qstep hp h
theorem drop_ne {l : List UInt8} {p : Nat} (hp : p < l.length) : l.drop p ≠ [] := fun g => by have := congrArg List.length g; rw [List.length_drop] at this; simp at this; omega
theorem digI_all : ∀ k : Fin 256, digI (UInt8.ofNat k.1) = if 48 ≤ k.1 ∧ k.1 ≤ 57 then (k.1 : Int) - 48 else if 97 ≤ k.1 ∧ k.1 ≤ 102 then (k.1 : Int) - 87 else -1 := by decide +kernel
theorem digI_eq (c : UInt8) : digI c = if 48 ≤ c.toNat ∧ c.toNat ≤ 57 then (c.toNat : Int) - 48 else if 97 ≤ c.toNat ∧ c.toNat ≤ 102 then (c.toNat : Int) - 87 else -1 := by
 have h := digI_all ⟨c.toNat, c.toNat_lt⟩
 rw [show UInt8.ofNat c.toNat = c from UInt8.ofNat_toNat] at h
 exact h
theorem hexF_next {l : List UInt8} {i v d : Nat} (hil : i < l.length) (hv : hexF 0 (l.take i) = some v) (h : digI l[i] = (d : Int)) : hexF 0 (l.take (i + 1)) = some (16 * v + d) := by
 rw [hexF_step hil hv, h, if_pos (by omega), Int.toNat_natCast]
theorem rune_le {l : List UInt8} {v n : Nat} (hne : l ≠ []) (hq : RuneQ l v n) : n ≤ l.length := by
 unfold RuneQ at hq
 split at hq
 · omega
 ·
  have := dec_step (List.length_pos_iff.2 hne)
  have : n = (dec l 0).2 := congrArg Prod.snd hq
  omega
theorem one_rune {l : List UInt8} {v n : Nat} (hne : l ≠ []) (h92 : at0 l 0 ≠ 92) (hq : RuneQ l v n) : OneQ l (l.take n) n := by
 by_cases hn : n = 0
 ·
  subst hn
  exact one_rawbad h92 (piece_bad hne hq rfl)
 ·
  obtain ⟨_, rfl, _⟩ := piece_good hne hq hn
  exact one_raw hne h92

theorem RQuote_spec (l : List UInt8) (hl : l.length ≤ 100000000) : Ctr Tryz.prog 19 [strV l] [] (fun w Ps => w = strV (Qt l) ∧ Ps = []) := by
 refine Ctr.of_body Tryz.func19 rfl (by kernel_rfl) Tryz.ntmps19 rfl rfl (fun Fr => ?_)
 refine T.seq fun K1 hK1 => ?_
 refine T.region (l := [0]) rfl ?_
 refine RN.a rfl ?_
 refine RN.nil ?_
 refine hK1 _ _ ?_
 refine T.seq fun K2 hK2 => ?_
 refine T.region (l := [0, 1]) rfl ?_
 refine RN.E rfl rfl rfl rfl (e_buildSlice1 rfl Tryz.underlying68 ti_5 rfl (by conv => lhs; whnf) rfl) ?_
 rintro _ _ ⟨b6, rfl, rfl⟩
 refine RN.a rfl ?_
 refine RN.nil ?_
 refine hK2 _ _ ?_
 refine T.seq fun K3 hK3 => ?_
 refine T.block ?_
 refine T.loop (G := Nat × List UInt8 × Value) (fun ⟨p, q, v3⟩ => p ≤ l.length ∧ q ++ qI (l.drop p) = 34 :: qI l ∧ v3.oneCell' = true) (fun ⟨p, q, v3⟩ => [(0, strV (l.drop p)), (3, v3)]) (fun ⟨p, q, v3⟩ => [vec 5 1 v3 q.length (q.map u8V), Fr]) (fun ⟨p, q, v3⟩ => l.length - p) (0, [34], slc b6 0 1 1) ⟨Nat.zero_le _, rfl, rfl⟩ (LiveIs.cons rfl (LiveIs.cons rfl LiveIs.nil)) (Ent.cons (vec_of_row (xs := [u8V 34]) (rest := []) rfl (Nat.le_refl _) (by decide) rfl) (Ent.refl _)) ?_
 rintro ⟨p, q, v3⟩ e4 ⟨hp, hq, hv3⟩
 dsimp only
 have hql := qlen hq
 refine T.seq fun K5 hK5 => ?_
 refine T.seq fun K6 hK6 => ?_
 refine T.region (l := [0, 1, 2]) rfl ?_
 refine RN.m rfl ?_
 refine RN.p rfl (p_len_s rfl Tryz.underlying9 rfl) ?_
 refine RN.p rfl (p_gtr rfl rfl rfl) ?_
 refine RN.nil ?_
 refine hK6 _ _ ?_
 first | refine T.cond_dec rfl (fun h9 => ?_) (fun h9 => ?_) | refine T.cond rfl (fun h9 => ?_) (fun h9 => ?_)
 ·
  have hlt : p < l.length := by rw [List.length_drop] at h9; omega
  have hwd := wdB_pos (drop_ne hlt)
  rw [List.length_drop] at hwd
  have hpl := pcB_len (s := l.drop p)
  refine T.skip ?_
  refine hK5 _ _ ?_
  refine T.block ?_
  refine T.seq fun K7 hK7 => ?_
  refine T.region (l := [0, 1, 2, 3, 4, 5, 6]) rfl ?_
  refine RN.m rfl ?_
  refine RN.C [] rfl rfl rfl rfl (c_call rfl rfl) (Piece_spec (l.drop p) (drop_ne hlt)) rfl ?_
  rintro _ _ ⟨rfl, rfl⟩
  refine RN.m rfl ?_
  refine RN.p rfl (p_extract rfl rfl rfl) ?_
  refine RN.p rfl (p_extract rfl rfl rfl) ?_
  refine RN.a rfl ?_
  refine RN.a rfl ?_
  refine RN.nil ?_
  refine hK7 _ _ ?_
  refine T.seq fun K8 hK8 => ?_
  refine T.region (l := [0, 1, 2, 3]) rfl ?_
  refine RN.m rfl ?_
  refine RN.m rfl ?_
  refine RN.E rfl rfl rfl rfl (e_append rfl Tryz.underlying68 ni_9 ti_5 rfl rfl (i := 0) rfl src_str one_u8 (by omega)) ?_
  rintro v17 _ ⟨hv17, rfl⟩
  refine RN.a rfl ?_
  refine RN.nil ?_
  refine hK8 _ _ ?_
  refine T.region (l := [0, 1, 2, 3]) rfl ?_
  refine RN.m rfl ?_
  refine RN.m rfl ?_
  refine RN.p rfl (by first | exact (p_slice_s_lo rfl Tryz.underlying9 rfl rfl (by rw [List.length_drop]; omega)) | exact (p_sliceN_s rfl Tryz.underlying9 rfl rfl rfl (by rw [List.length_drop]; omega)) | exact (p_slice_s rfl Tryz.underlying9 rfl rfl rfl (by rw [List.length_drop]; omega))) ?_
  refine RN.a rfl ?_
  refine RN.nil ?_
  refine ⟨(p + wdB (l.drop p), q ++ pcB (l.drop p), v17), ⟨by omega, qstep2 hlt hq, hv17⟩, (by show _ - (p + _) < _ - p; omega), (LiveIs.cons (congrArg strV (by rw [List.drop_drop])) (LiveIs.cons rfl LiveIs.nil)), (Ent.cons (vec_eq (by rw [List.length_append]) (by rw [List.map_append])) (Ent.refl _))⟩
 ·
  have hpe : p = l.length := by rw [List.length_drop] at h9; omega
  refine T.exit ?_
  refine Post.seq_x ?_
  refine Post.seq_x ?_
  refine Post.block_hit ?_
  refine hK3 _ _ ?_
  refine T.seq fun K9 hK9 => ?_
  refine T.region (l := [0, 1, 2, 3, 4]) rfl ?_
  refine RN.m rfl ?_
  refine RN.E rfl rfl rfl rfl (e_buildSlice1 rfl Tryz.underlying68 ti_5 rfl (by conv => lhs; whnf) rfl) ?_
  rintro _ _ ⟨b22, rfl, rfl⟩
  refine RN.E rfl rfl rfl rfl (e_append rfl Tryz.underlying68 ni_68 ti_5 rfl rfl (i := 1) rfl (src_full (i := 0) rfl rfl) (by simp [Value.oneCell']) (by omega)) ?_
  rintro v23 _ ⟨hv23, rfl⟩
  refine RN.u rfl (q_vec_str (l := q ++ [34]) rfl Tryz.underlying68 Tryz.underlying5 Tryz.underlying9 rfl (i := 1) rfl (by simp) (by simp [u8V])) ?_
  refine RN.a rfl ?_
  refine RN.nil ?_
  refine hK9 _ _ ?_
  refine T.ret ?_
  refine bodyQ_ret [] (RetRun.tmp RetRun.nil) ⟨congrArg strV (qdone hpe hq), rfl⟩ (Ent.pull_drop (is := [2]) rfl)

theorem Dig_spec (l : List UInt8) (n : Nat) (hn : n ≤ 4) : Ctr Tryz.prog 54 [strV l, intV n] [] (fun w Ps => ∃ d : Int, w = .int .i64 d ∧ ((∃ v : Nat, d = (v : Int) ∧ hexP l n = some v) ∨ (d = -1 ∧ hexP l n = none)) ∧ Ps = []) := by
 refine Ctr.of_body Tryz.func54 rfl (by kernel_rfl) Tryz.ntmps54 rfl rfl (fun Fr => ?_)
 refine T.seq fun K1 hK1 => ?_
 refine T.region (l := [0]) rfl ?_
 refine RN.a rfl ?_
 refine RN.nil ?_
 refine hK1 _ _ ?_
 refine T.seq fun K2 hK2 => ?_
 refine T.seq fun K3 hK3 => ?_
 refine T.region (l := [0, 1, 2, 3]) rfl ?_
 refine RN.m rfl ?_
 refine RN.p rfl (p_len_s rfl Tryz.underlying9 rfl) ?_
 refine RN.m rfl ?_
 refine RN.p rfl (p_lss rfl rfl rfl) ?_
 refine RN.nil ?_
 refine hK3 _ _ ?_
 first | refine T.cond_dec rfl (fun h11 => ?_) (fun h11 => ?_) | refine T.cond rfl (fun h11 => ?_) (fun h11 => ?_)
 ·
  refine T.seq fun K4 hK4 => ?_
  refine T.region (l := [0]) rfl ?_
  refine RN.a rfl ?_
  refine RN.nil ?_
  refine hK4 _ _ ?_
  refine T.ret ?_
  refine Post.seq_r ?_
  refine bodyQ_ret [] (RetRun.tmp RetRun.nil) ⟨-1, rfl, .inr ⟨rfl, by unfold hexP; rw [if_neg (by omega)]⟩, rfl⟩ (Ent.refl _)
 ·
  have hnl : n ≤ l.length := by omega
  refine T.skip ?_
  refine hK2 _ _ ?_
  refine T.seq fun K5 hK5 => ?_
  refine T.region (l := [0]) rfl ?_
  refine RN.a rfl ?_
  refine RN.nil ?_
  refine hK5 _ _ ?_
  refine T.seq fun K6 hK6 => ?_
  refine T.seq fun K7 hK7 => ?_
  refine T.region (l := [0]) rfl ?_
  refine RN.a rfl ?_
  refine RN.nil ?_
  refine hK7 _ _ ?_
  refine T.block ?_
  refine T.loop (G := Nat × Nat) (fun ⟨i, v⟩ => i ≤ n ∧ hexF 0 (l.take i) = some v ∧ v < 16 ^ i) (fun ⟨i, v⟩ => [(0, strV l), (1, intV n), (5, intV v), (6, intV i)]) (fun ⟨i, v⟩ => [Fr]) (fun ⟨i, v⟩ => n - i) (0, 0) ⟨Nat.zero_le _, rfl, by decide⟩ (LiveIs.cons rfl (LiveIs.cons rfl (LiveIs.cons rfl (LiveIs.cons rfl LiveIs.nil)))) (Ent.refl _) ?_
  rintro ⟨i, v⟩ e8 ⟨hin, hv, hvi⟩
  dsimp only
  refine T.seq fun K9 hK9 => ?_
  refine T.seq fun K10 hK10 => ?_
  refine T.region (l := [0, 1, 2]) rfl ?_
  refine RN.m rfl ?_
  refine RN.m rfl ?_
  refine RN.p rfl (p_lss rfl rfl rfl) ?_
  refine RN.nil ?_
  refine hK10 _ _ ?_
  first | refine T.cond_dec rfl (fun h14 => ?_) (fun h14 => ?_) | refine T.cond rfl (fun h14 => ?_) (fun h14 => ?_)
  ·
   have hlt : i < n := by omega
   have hil : i < l.length := by omega
   have hdi := digI_eq l[i]
   have hdl := l[i].toNat_lt
   have hpow : 16 ^ i ≤ 16 ^ 3 := Nat.pow_le_pow_right (by omega) (by omega)
   refine T.skip ?_
   refine hK9 _ _ ?_
   refine T.seq fun K11 hK11 => ?_
   refine T.block ?_
   refine T.seq fun K12 hK12 => ?_
   refine T.region (l := [0, 1, 2, 3]) rfl ?_
   refine RN.m rfl ?_
   refine RN.m rfl ?_
   refine RN.p rfl (by first | exact (p_indexN_s rfl Tryz.underlying9 rfl rfl (List.getElem?_eq_getElem hil)) | exact (p_index_s rfl Tryz.underlying9 rfl rfl (List.getElem?_eq_getElem hil))) ?_
   refine RN.a rfl ?_
   refine RN.nil ?_
   refine hK12 _ _ ?_
   refine T.block ?_
   refine T.seq fun K13 hK13 => ?_
   refine T.region (l := [0, 1, 2, 3, 4, 5, 6]) rfl ?_
   refine RN.m rfl ?_
   refine RN.p rfl (p_geq rfl rfl rfl) ?_
   refine RN.m rfl ?_
   first | refine RN.split_dec 23 rfl (fun h23 => ?_) (fun h23 => ?_) | refine RN.split 23 rfl (fun h23 => ?_) (fun h23 => ?_)
   ·
    refine RN.m rfl ?_
    refine RN.p rfl (p_leq rfl rfl rfl) ?_
    refine RN.pt rfl ?_
    refine RN.a rfl ?_
    refine RN.nil ?_
    refine hK13 _ _ ?_
    first | refine T.cond_dec rfl (fun h20 => ?_) (fun h20 => ?_) | refine T.cond rfl (fun h20 => ?_) (fun h20 => ?_)
    ·
     first | refine T.known 20 rfl (congrArg Value.bool (decide_eq_true h20)) ?_ | refine T.known 20 rfl (congrArg Value.bool h20) ?_
     refine T.region (l := [0, 1, 2, 3, 4, 5, 6]) rfl ?_
     refine RN.m rfl ?_
     refine RN.p rfl (by first | exact (p_mulN (a := 16) rfl rfl rfl (by omega)) | exact (p_mul rfl rfl rfl (by omega))) ?_
     refine RN.m rfl ?_
     refine RN.p rfl (p_subN8 (b := 48) rfl rfl rfl (by omega)) ?_
     refine RN.p rfl (p_conv_i64 rfl Tryz.underlying5 Tryz.underlying3 rfl (by omega)) ?_
     refine RN.p rfl (by first | exact (p_addN rfl rfl rfl (by omega)) | exact (p_add rfl rfl rfl (by omega))) ?_
     refine RN.a rfl ?_
     refine RN.nil ?_
     refine hK11 _ _ ?_
     refine T.region (l := [0, 1, 2]) rfl ?_
     refine RN.m rfl ?_
     refine RN.p rfl (by first | exact (p_addN (b := 1) rfl rfl rfl (by omega)) | exact (p_add rfl rfl rfl (by omega))) ?_
     refine RN.a rfl ?_
     refine RN.nil ?_
     refine ⟨(i + 1, 16 * v + (l[i].toNat - 48)), ⟨hlt, (hexF_next hil hv (d := l[i].toNat - 48) (by rw [hdi, if_pos (by omega)]; omega)).trans (congrArg some (by omega)), by show 16 * v + (l[i].toNat - 48) < 16 ^ (i + 1); rw [Nat.pow_succ]; omega⟩, (by show _ - (i + 1) < _ - i; omega), (LiveIs.cons rfl (LiveIs.cons rfl (LiveIs.cons rfl (LiveIs.cons rfl LiveIs.nil)))), Ent.refl _⟩
    ·
     first | refine T.known 20 rfl (congrArg Value.bool (decide_eq_false h20)) ?_ | refine T.known 20 rfl (congrArg Value.bool h20) ?_
     refine T.seq fun K14 hK14 => ?_
     refine T.region (l := [0, 1, 2, 3, 4, 5, 6]) rfl ?_
     refine RN.m rfl ?_
     refine RN.p rfl (p_geq rfl rfl rfl) ?_
     refine RN.m rfl ?_
     first | refine RN.split_dec 36 rfl (fun h36 => ?_) (fun h36 => ?_) | refine RN.split 36 rfl (fun h36 => ?_) (fun h36 => ?_)
     ·
      refine RN.m rfl ?_
      refine RN.p rfl (p_leq rfl rfl rfl) ?_
      refine RN.pt rfl ?_
      refine RN.a rfl ?_
      refine RN.nil ?_
      refine hK14 _ _ ?_
      first | refine T.cond_dec rfl (fun h33 => ?_) (fun h33 => ?_) | refine T.cond rfl (fun h33 => ?_) (fun h33 => ?_)
      ·
       first | refine T.known 33 rfl (congrArg Value.bool (decide_eq_true h33)) ?_ | refine T.known 33 rfl (congrArg Value.bool h33) ?_
       refine T.region (l := [0, 1, 2, 3, 4, 5, 6, 7]) rfl ?_
       refine RN.m rfl ?_
       refine RN.p rfl (by first | exact (p_mulN (a := 16) rfl rfl rfl (by omega)) | exact (p_mul rfl rfl rfl (by omega))) ?_
       refine RN.m rfl ?_
       refine RN.p rfl (p_subN8 (b := 97) rfl rfl rfl (by omega)) ?_
       refine RN.p rfl (p_conv_i64 rfl Tryz.underlying5 Tryz.underlying3 rfl (by omega)) ?_
       refine RN.p rfl (by first | exact (p_addN rfl rfl rfl (by omega)) | exact (p_add rfl rfl rfl (by omega))) ?_
       refine RN.p rfl (by first | exact (p_addN (b := 10) rfl rfl rfl (by omega)) | exact (p_add rfl rfl rfl (by omega))) ?_
       refine RN.a rfl ?_
       refine RN.nil ?_
       refine hK11 _ _ ?_
       refine T.region (l := [0, 1, 2]) rfl ?_
       refine RN.m rfl ?_
       refine RN.p rfl (by first | exact (p_addN (b := 1) rfl rfl rfl (by omega)) | exact (p_add rfl rfl rfl (by omega))) ?_
       refine RN.a rfl ?_
       refine RN.nil ?_
       refine ⟨(i + 1, 16 * v + (l[i].toNat - 97) + 10), ⟨hlt, (hexF_next hil hv (d := l[i].toNat - 97 + 10) (by rw [hdi, if_neg (by omega), if_pos (by omega)]; omega)).trans (congrArg some (by omega)), by show 16 * v + (l[i].toNat - 97) + 10 < 16 ^ (i + 1); rw [Nat.pow_succ]; omega⟩, (by show _ - (i + 1) < _ - i; omega), (LiveIs.cons rfl (LiveIs.cons rfl (LiveIs.cons rfl (LiveIs.cons rfl LiveIs.nil)))), Ent.refl _⟩
      ·
       first | refine T.known 33 rfl (congrArg Value.bool (decide_eq_false h33)) ?_ | refine T.known 33 rfl (congrArg Value.bool h33) ?_
       refine T.seq fun K15 hK15 => ?_
       refine T.region (l := [0]) rfl ?_
       refine RN.a rfl ?_
       refine RN.nil ?_
       refine hK15 _ _ ?_
       refine T.ret ?_
       refine Post.block_r ?_
       refine Post.block_r ?_
       refine Post.seq_r ?_
       refine Post.seq_r ?_
       refine Post.block_r ?_
       refine Post.seq_r ?_
       refine bodyQ_ret [] (RetRun.tmp RetRun.nil) ⟨-1, rfl, .inr ⟨rfl, by unfold hexP; rw [if_pos (by omega)]; exact hexF_bad hlt (by omega) hv (by rw [hdi, if_neg (by omega), if_neg (by omega)]; omega)⟩, rfl⟩ (Ent.refl _)
     ·
      refine RN.no0 rfl ?_
      refine RN.no0 rfl ?_
      refine RN.pf rfl ?_
      refine RN.a rfl ?_
      refine RN.nil ?_
      refine hK14 _ _ ?_
      refine T.cond_f rfl ?_
      refine T.seq fun K16 hK16 => ?_
      refine T.region (l := [0]) rfl ?_
      refine RN.a rfl ?_
      refine RN.nil ?_
      refine hK16 _ _ ?_
      refine T.ret ?_
      refine Post.block_r ?_
      refine Post.block_r ?_
      refine Post.seq_r ?_
      refine Post.seq_r ?_
      refine Post.block_r ?_
      refine Post.seq_r ?_
      refine bodyQ_ret [] (RetRun.tmp RetRun.nil) ⟨-1, rfl, .inr ⟨rfl, by unfold hexP; rw [if_pos (by omega)]; exact hexF_bad hlt (by omega) hv (by rw [hdi, if_neg (by omega), if_neg (by omega)]; omega)⟩, rfl⟩ (Ent.refl _)
   ·
    refine RN.no0 rfl ?_
    refine RN.no0 rfl ?_
    refine RN.pf rfl ?_
    refine RN.a rfl ?_
    refine RN.nil ?_
    refine hK13 _ _ ?_
    refine T.cond_f rfl ?_
    refine T.seq fun K17 hK17 => ?_
    refine T.region (l := [0, 1, 2, 3, 4, 5, 6]) rfl ?_
    refine RN.m rfl ?_
    refine RN.p rfl (p_geq rfl rfl rfl) ?_
    refine RN.m rfl ?_
    first | refine RN.split_dec 36 rfl (fun h36 => ?_) (fun h36 => ?_) | refine RN.split 36 rfl (fun h36 => ?_) (fun h36 => ?_)
    ·
     refine RN.m rfl ?_
     refine RN.p rfl (p_leq rfl rfl rfl) ?_
     refine RN.pt rfl ?_
     refine RN.a rfl ?_
     refine RN.nil ?_
     refine hK17 _ _ ?_
     first | refine T.cond_dec rfl (fun h33 => ?_) (fun h33 => ?_) | refine T.cond rfl (fun h33 => ?_) (fun h33 => ?_)
     ·
      first | refine T.known 33 rfl (congrArg Value.bool (decide_eq_true h33)) ?_ | refine T.known 33 rfl (congrArg Value.bool h33) ?_
      refine T.region (l := [0, 1, 2, 3, 4, 5, 6, 7]) rfl ?_
      refine RN.m rfl ?_
      refine RN.p rfl (by first | exact (p_mulN (a := 16) rfl rfl rfl (by omega)) | exact (p_mul rfl rfl rfl (by omega))) ?_
      refine RN.m rfl ?_
      refine RN.p rfl (p_subN8 (b := 97) rfl rfl rfl (by omega)) ?_
      refine RN.p rfl (p_conv_i64 rfl Tryz.underlying5 Tryz.underlying3 rfl (by omega)) ?_
      refine RN.p rfl (by first | exact (p_addN rfl rfl rfl (by omega)) | exact (p_add rfl rfl rfl (by omega))) ?_
      refine RN.p rfl (by first | exact (p_addN (b := 10) rfl rfl rfl (by omega)) | exact (p_add rfl rfl rfl (by omega))) ?_
      refine RN.a rfl ?_
      refine RN.nil ?_
      refine hK11 _ _ ?_
      refine T.region (l := [0, 1, 2]) rfl ?_
      refine RN.m rfl ?_
      refine RN.p rfl (by first | exact (p_addN (b := 1) rfl rfl rfl (by omega)) | exact (p_add rfl rfl rfl (by omega))) ?_
      refine RN.a rfl ?_
      refine RN.nil ?_
      refine ⟨(i + 1, 16 * v + (l[i].toNat - 97) + 10), ⟨hlt, (hexF_next hil hv (d := l[i].toNat - 97 + 10) (by rw [hdi, if_neg (by omega), if_pos (by omega)]; omega)).trans (congrArg some (by omega)), by show 16 * v + (l[i].toNat - 97) + 10 < 16 ^ (i + 1); rw [Nat.pow_succ]; omega⟩, (by show _ - (i + 1) < _ - i; omega), (LiveIs.cons rfl (LiveIs.cons rfl (LiveIs.cons rfl (LiveIs.cons rfl LiveIs.nil)))), Ent.refl _⟩
     ·
      first | refine T.known 33 rfl (congrArg Value.bool (decide_eq_false h33)) ?_ | refine T.known 33 rfl (congrArg Value.bool h33) ?_
      refine T.seq fun K18 hK18 => ?_
      refine T.region (l := [0]) rfl ?_
      refine RN.a rfl ?_
      refine RN.nil ?_
      refine hK18 _ _ ?_
      refine T.ret ?_
      refine Post.block_r ?_
      refine Post.block_r ?_
      refine Post.seq_r ?_
      refine Post.seq_r ?_
      refine Post.block_r ?_
      refine Post.seq_r ?_
      refine bodyQ_ret [] (RetRun.tmp RetRun.nil) ⟨-1, rfl, .inr ⟨rfl, by unfold hexP; rw [if_pos (by omega)]; exact hexF_bad hlt (by omega) hv (by rw [hdi, if_neg (by omega), if_neg (by omega)]; omega)⟩, rfl⟩ (Ent.refl _)
    ·
     refine RN.no0 rfl ?_
     refine RN.no0 rfl ?_
     refine RN.pf rfl ?_
     refine RN.a rfl ?_
     refine RN.nil ?_
     refine hK17 _ _ ?_
     refine T.cond_f rfl ?_
     refine T.seq fun K19 hK19 => ?_
     refine T.region (l := [0]) rfl ?_
     refine RN.a rfl ?_
     refine RN.nil ?_
     refine hK19 _ _ ?_
     refine T.ret ?_
     refine Post.block_r ?_
     refine Post.block_r ?_
     refine Post.seq_r ?_
     refine Post.seq_r ?_
     refine Post.block_r ?_
     refine Post.seq_r ?_
     refine bodyQ_ret [] (RetRun.tmp RetRun.nil) ⟨-1, rfl, .inr ⟨rfl, by unfold hexP; rw [if_pos (by omega)]; exact hexF_bad hlt (by omega) hv (by rw [hdi, if_neg (by omega), if_neg (by omega)]; omega)⟩, rfl⟩ (Ent.refl _)
  ·
   have ein : i = n := by omega
   subst ein
   refine T.exit ?_
   refine Post.seq_x ?_
   refine Post.seq_x ?_
   refine Post.block_hit ?_
   refine hK6 _ _ ?_
   refine T.seq fun K20 hK20 => ?_
   refine T.region (l := [0, 1]) rfl ?_
   refine RN.m rfl ?_
   refine RN.a rfl ?_
   refine RN.nil ?_
   refine hK20 _ _ ?_
   refine T.ret ?_
   refine bodyQ_ret [] (RetRun.tmp RetRun.nil) ⟨_, rfl, .inl ⟨v, rfl, by unfold hexP; rw [if_pos (by omega)]; exact hv⟩, rfl⟩ (Ent.refl _)

theorem Raw_spec (v : Nat) (hv : v < 65536) : Ctr Tryz.prog 55 [intV v] [] (fun w Ps => ∃ x, w = strV x ∧ (setU v → x = enc v) ∧ x ≠ [] ∧ x.length ≤ 6 ∧ Ps = []) := by
 refine Ctr.of_body Tryz.func55 rfl (by kernel_rfl) Tryz.ntmps55 rfl rfl (fun Fr => ?_)
 refine T.seq fun K1 hK1 => ?_
 refine T.region (l := [0]) rfl ?_
 refine RN.a rfl ?_
 refine RN.nil ?_
 refine hK1 _ _ ?_
 refine T.seq fun K2 hK2 => ?_
 refine T.seq fun K3 hK3 => ?_
 refine T.region (l := [0, 1]) rfl ?_
 refine RN.m rfl ?_
 refine RN.p rfl (p_lss rfl rfl rfl) ?_
 refine RN.nil ?_
 refine hK3 _ _ ?_
 first | refine T.cond_dec rfl (fun h4 => ?_) (fun h4 => ?_) | refine T.cond rfl (fun h4 => ?_) (fun h4 => ?_)
 ·
  refine T.seq fun K4 hK4 => ?_
  refine T.region (l := [0, 1, 2, 3, 4]) rfl ?_
  refine RN.m rfl ?_
  refine RN.p rfl (p_conv_u8 rfl Tryz.underlying3 Tryz.underlying5 rfl (by omega)) ?_
  refine RN.E rfl rfl rfl rfl (e_buildSlice1 rfl Tryz.underlying68 ti_5 rfl (by conv => lhs; whnf) rfl) ?_
  rintro _ _ ⟨b7, rfl, rfl⟩
  refine RN.u rfl (q_bytes_str (l := [UInt8.ofNat v]) rfl Tryz.underlying68 Tryz.underlying5 Tryz.underlying9 rfl (i := 0) rfl (Nat.le_refl 1) (by show [Value.int .u8 ((v : Nat) : Int)] = _; rw [u8_val (v := v) (by omega)]; rfl)) ?_
  refine RN.a rfl ?_
  refine RN.nil ?_
  refine hK4 _ _ ?_
  refine T.ret ?_
  refine Post.seq_r ?_
  refine bodyQ_ret [] (RetRun.tmp RetRun.nil) ⟨[UInt8.ofNat v], rfl, fun h => ?_, (by simp), (by simp), rfl⟩ (Ent.pull_drop (is := [1]) rfl)
  unfold setU at h
  unfold enc Utf8.encode
  have hv : Utf8.valid (v : Int) = true := by simp [Utf8.valid]; omega
  rw [if_pos hv, Int.toNat_natCast, if_pos (by omega)]
 ·
  refine T.skip ?_
  refine hK2 _ _ ?_
  refine T.seq fun K5 hK5 => ?_
  refine T.seq fun K6 hK6 => ?_
  refine T.region (l := [0, 1]) rfl ?_
  refine RN.m rfl ?_
  refine RN.p rfl (p_lss rfl rfl rfl) ?_
  refine RN.nil ?_
  refine hK6 _ _ ?_
  first | refine T.cond_dec rfl (fun h10 => ?_) (fun h10 => ?_) | refine T.cond rfl (fun h10 => ?_) (fun h10 => ?_)
  ·
   refine T.seq fun K7 hK7 => ?_
   refine T.region (l := [0, 1, 2, 3, 4, 5, 6, 7, 8, 9, 10]) rfl ?_
   refine RN.m rfl ?_
   refine RN.p rfl (by first | exact (p_quoN (b := 64) rfl rfl rfl (by omega)) | exact (p_quo rfl rfl rfl (by omega))) ?_
   refine RN.p rfl (by first | exact (p_addN (a := 192) rfl rfl rfl (by omega)) | exact (p_add rfl rfl rfl (by omega))) ?_
   refine RN.p rfl (p_conv_u8 rfl Tryz.underlying3 Tryz.underlying5 rfl (by omega)) ?_
   refine RN.m rfl ?_
   refine RN.p rfl (by first | exact (p_remN (b := 64) rfl rfl rfl (by omega)) | exact (p_rem rfl rfl rfl (by omega))) ?_
   refine RN.p rfl (by first | exact (p_addN (a := 128) rfl rfl rfl (by omega)) | exact (p_add rfl rfl rfl (by omega))) ?_
   refine RN.p rfl (p_conv_u8 rfl Tryz.underlying3 Tryz.underlying5 rfl (by omega)) ?_
   refine RN.E rfl rfl rfl rfl (e_buildSlice rfl Tryz.underlying68 ti_5 rfl (by decide) rfl (by simp)) ?_
   rintro _ _ ⟨b19, rfl, rfl⟩
   refine RN.u rfl (q_bytes_str (l := [UInt8.ofNat (192 + v / 64), UInt8.ofNat (128 + v % 64)]) rfl Tryz.underlying68 Tryz.underlying5 Tryz.underlying9 rfl (i := 0) rfl (Nat.le_refl 2) (by show [Value.int .u8 (((192 + v / 64) : Nat) : Int), Value.int .u8 (((128 + v % 64) : Nat) : Int)] = _; rw [u8_val (v := (192 + v / 64)) (by omega), u8_val (v := (128 + v % 64)) (by omega)]; rfl)) ?_
   refine RN.a rfl ?_
   refine RN.nil ?_
   refine hK7 _ _ ?_
   refine T.ret ?_
   refine Post.seq_r ?_
   refine bodyQ_ret [] (RetRun.tmp RetRun.nil) ⟨[UInt8.ofNat (192 + v / 64), UInt8.ofNat (128 + v % 64)], rfl, fun h => ?_, (by simp), (by simp), rfl⟩ (Ent.pull_drop (is := [1]) rfl)
   unfold setU at h
   unfold enc Utf8.encode
   have hv : Utf8.valid (v : Int) = true := by simp [Utf8.valid]; omega
   rw [if_pos hv, Int.toNat_natCast, if_neg (by omega), if_pos (by omega)]
  ·
   refine T.skip ?_
   refine hK5 _ _ ?_
   refine T.seq fun K8 hK8 => ?_
   refine T.region (l := [0, 1, 2, 3, 4, 5, 6, 7, 8, 9, 10, 11, 12, 13, 14, 15]) rfl ?_
   refine RN.m rfl ?_
   refine RN.p rfl (by first | exact (p_quoN (b := 4096) rfl rfl rfl (by omega)) | exact (p_quo rfl rfl rfl (by omega))) ?_
   refine RN.p rfl (by first | exact (p_addN (a := 224) rfl rfl rfl (by omega)) | exact (p_add rfl rfl rfl (by omega))) ?_
   refine RN.p rfl (p_conv_u8 rfl Tryz.underlying3 Tryz.underlying5 rfl (by omega)) ?_
   refine RN.m rfl ?_
   refine RN.p rfl (by first | exact (p_quoN (b := 64) rfl rfl rfl (by omega)) | exact (p_quo rfl rfl rfl (by omega))) ?_
   refine RN.p rfl (by first | exact (p_remN (b := 64) rfl rfl rfl (by omega)) | exact (p_rem rfl rfl rfl (by omega))) ?_
   refine RN.p rfl (by first | exact (p_addN (a := 128) rfl rfl rfl (by omega)) | exact (p_add rfl rfl rfl (by omega))) ?_
   refine RN.p rfl (p_conv_u8 rfl Tryz.underlying3 Tryz.underlying5 rfl (by omega)) ?_
   refine RN.m rfl ?_
   refine RN.p rfl (by first | exact (p_remN (b := 64) rfl rfl rfl (by omega)) | exact (p_rem rfl rfl rfl (by omega))) ?_
   refine RN.p rfl (by first | exact (p_addN (a := 128) rfl rfl rfl (by omega)) | exact (p_add rfl rfl rfl (by omega))) ?_
   refine RN.p rfl (p_conv_u8 rfl Tryz.underlying3 Tryz.underlying5 rfl (by omega)) ?_
   refine RN.E rfl rfl rfl rfl (e_buildSlice rfl Tryz.underlying68 ti_5 rfl (by decide) rfl (by simp)) ?_
   rintro _ _ ⟨b34, rfl, rfl⟩
   refine RN.u rfl (q_bytes_str (l := [UInt8.ofNat (224 + v / 4096), UInt8.ofNat (128 + v / 64 % 64), UInt8.ofNat (128 + v % 64)]) rfl Tryz.underlying68 Tryz.underlying5 Tryz.underlying9 rfl (i := 0) rfl (Nat.le_refl 3) (by show [Value.int .u8 (((224 + v / 4096) : Nat) : Int), Value.int .u8 (((128 + v / 64 % 64) : Nat) : Int), Value.int .u8 (((128 + v % 64) : Nat) : Int)] = _; rw [u8_val (v := (224 + v / 4096)) (by omega), u8_val (v := (128 + v / 64 % 64)) (by omega), u8_val (v := (128 + v % 64)) (by omega)]; rfl)) ?_
   refine RN.a rfl ?_
   refine RN.nil ?_
   refine hK8 _ _ ?_
   refine T.ret ?_
   refine bodyQ_ret [] (RetRun.tmp RetRun.nil) ⟨[UInt8.ofNat (224 + v / 4096), UInt8.ofNat (128 + v / 64 % 64), UInt8.ofNat (128 + v % 64)], rfl, fun h => ?_, (by simp), (by simp), rfl⟩ (Ent.pull_drop (is := [1]) rfl)
   unfold setU at h
   unfold enc Utf8.encode
   have hv : Utf8.valid (v : Int) = true := by simp [Utf8.valid]; omega
   rw [if_pos hv, Int.toNat_natCast, if_neg (by omega), if_neg (by omega), if_pos (by omega)]

theorem ROne_spec (l : List UInt8) (hne : l ≠ []) : Ctr Tryz.prog 38 [strV l] [] (fun w Ps => ∃ x k, w = .tuple #[strV x, intV k] ∧ OneQ l x k ∧ Ps = []) := by
 refine Ctr.of_body Tryz.func38 rfl (by kernel_rfl) Tryz.ntmps38 rfl rfl (fun Fr => ?_)
 have hl0 : 0 < l.length := List.length_pos_iff.2 hne
 have e0 : at0 l 0 = l[0].toNat := at0_get hl0
 refine T.seq fun K1 hK1 => ?_
 refine T.region (l := [0, 1]) rfl ?_
 refine RN.a rfl ?_
 refine RN.a rfl ?_
 refine RN.nil ?_
 refine hK1 _ _ ?_
 refine T.seq fun K2 hK2 => ?_
 refine T.seq fun K3 hK3 => ?_
 refine T.region (l := [0, 1, 2]) rfl ?_
 refine RN.m rfl ?_
 refine RN.p rfl (by first | exact (p_indexN_s (n := 0) rfl Tryz.underlying9 rfl rfl (List.getElem?_eq_getElem hl0)) | exact (p_index_s rfl Tryz.underlying9 rfl rfl (List.getElem?_eq_getElem hl0))) ?_
 refine RN.p rfl (p_neq rfl rfl rfl) ?_
 refine RN.nil ?_
 refine hK3 _ _ ?_
 first | refine T.cond_dec rfl (fun h10 => ?_) (fun h10 => ?_) | refine T.cond rfl (fun h10 => ?_) (fun h10 => ?_)
 ·
  refine T.seq fun K4 hK4 => ?_
  refine T.region (l := [0, 1, 2, 3, 4, 5, 6]) rfl ?_
  refine RN.m rfl ?_
  refine RN.C [] rfl rfl rfl rfl (c_call rfl rfl) (Rune_spec l) rfl ?_
  rintro _ _ ⟨v, n, rfl, hq, rfl⟩
  have hrl := rune_le hne hq
  refine RN.m rfl ?_
  refine RN.p rfl (p_extract rfl rfl rfl) ?_
  refine RN.p rfl (p_extract rfl rfl rfl) ?_
  refine RN.a rfl ?_
  refine RN.a rfl ?_
  refine RN.nil ?_
  refine hK4 _ _ ?_
  refine T.seq fun K5 hK5 => ?_
  refine T.region (l := [0, 1, 2, 3, 4, 5]) rfl ?_
  refine RN.m rfl ?_
  refine RN.m rfl ?_
  refine RN.p rfl (by first | exact (p_slice_s_hi rfl Tryz.underlying9 rfl rfl hrl) | exact (p_sliceN_s (l := 0) rfl Tryz.underlying9 rfl rfl rfl hrl) | exact (p_slice_s rfl Tryz.underlying9 rfl rfl rfl hrl)) ?_
  refine RN.m rfl ?_
  refine RN.a rfl ?_
  refine RN.a rfl ?_
  refine RN.nil ?_
  refine hK5 _ _ ?_
  refine T.ret ?_
  refine Post.seq_r ?_
  refine bodyQ_ret [] (RetRun.tmp (RetRun.tmp RetRun.nil)) ⟨_, _, rfl, one_rune hne (by rw [e0]; omega) hq, rfl⟩ (Ent.refl _)
 ·
  refine T.skip ?_
  refine hK2 _ _ ?_
  refine T.seq fun K6 hK6 => ?_
  refine T.seq fun K7 hK7 => ?_
  refine T.region (l := [0, 1, 2]) rfl ?_
  refine RN.m rfl ?_
  refine RN.p rfl (p_len_s rfl Tryz.underlying9 rfl) ?_
  refine RN.p rfl (p_lss rfl rfl rfl) ?_
  refine RN.nil ?_
  refine hK7 _ _ ?_
  first | refine T.cond_dec rfl (fun h22 => ?_) (fun h22 => ?_) | refine T.cond rfl (fun h22 => ?_) (fun h22 => ?_)
  ·
   refine T.seq fun K8 hK8 => ?_
   refine T.region (l := [0, 1]) rfl ?_
   refine RN.a rfl ?_
   refine RN.a rfl ?_
   refine RN.nil ?_
   refine hK8 _ _ ?_
   refine T.ret ?_
   refine Post.seq_r ?_
   refine bodyQ_ret [] (RetRun.tmp (RetRun.tmp RetRun.nil)) ⟨[], 0, rfl, one_short (by rw [e0]; omega) (by omega), rfl⟩ (Ent.refl _)
  ·
   obtain ⟨c, r, rfl⟩ := two_of (l := l) (by rw [e0]; omega) (by omega)
   refine T.skip ?_
   refine hK6 _ _ ?_
   refine T.seq fun K9 hK9 => ?_
   refine T.seq fun K10 hK10 => ?_
   refine T.region (l := [0, 1]) rfl ?_
   refine RN.m rfl ?_
   refine RN.p rfl (p_indexN_s (n := 1) (b := c) rfl Tryz.underlying9 rfl rfl rfl) ?_
   refine RN.nil ?_
   refine hK10 _ _ ?_
   refine T.block ?_
   refine T.seq fun K11 hK11 => ?_
   refine T.seq fun K12 hK12 => ?_
   refine T.region (l := [0, 1]) rfl ?_
   refine RN.p rfl (p_eql rfl rfl rfl) ?_
   refine RN.a rfl ?_
   refine RN.nil ?_
   refine hK12 _ _ ?_
   first | refine T.cond_dec rfl (fun h25 => ?_) (fun h25 => ?_) | refine T.cond rfl (fun h25 => ?_) (fun h25 => ?_)
   ·
    first | refine T.known 25 rfl (congrArg Value.bool (decide_eq_true h25)) ?_ | refine T.known 25 rfl (congrArg Value.bool h25) ?_
    refine T.skip ?_
    refine hK11 _ _ ?_
    refine T.cond_t rfl ?_
    refine T.seq fun K13 hK13 => ?_
    refine T.region (l := [0, 1, 2, 3]) rfl ?_
    refine RN.m rfl ?_
    refine RN.p rfl (by first | exact (p_sliceN_s (l := 1) (h := 2) rfl Tryz.underlying9 rfl rfl rfl (by simp)) | exact (p_slice_s rfl Tryz.underlying9 rfl rfl rfl (by simp))) ?_
    refine RN.a rfl ?_
    refine RN.a rfl ?_
    refine RN.nil ?_
    refine hK13 _ _ ?_
    refine T.ret ?_
    refine Post.block_r ?_
    refine Post.seq_r ?_
    refine bodyQ_ret [] (RetRun.tmp (RetRun.tmp RetRun.nil)) ⟨[c], 2, rfl, one_pair (by first | exact .inl ⟨u8_of (n := 34) (by rw [h25]; rfl), u8_of (n := 34) (by rw [h25]; rfl)⟩ | exact .inr (.inl ⟨u8_of (n := 92) (by rw [h25]; rfl), u8_of (n := 92) (by rw [h25]; rfl)⟩)), rfl⟩ (Ent.refl _)
   ·
    first | refine T.known 25 rfl (congrArg Value.bool (decide_eq_false h25)) ?_ | refine T.known 25 rfl (congrArg Value.bool h25) ?_
    refine T.region (l := [0, 1]) rfl ?_
    refine RN.p rfl (p_eql rfl rfl rfl) ?_
    refine RN.a rfl ?_
    refine RN.nil ?_
    refine hK11 _ _ ?_
    first | refine T.cond_dec rfl (fun h25 => ?_) (fun h25 => ?_) | refine T.cond rfl (fun h25 => ?_) (fun h25 => ?_)
    ·
     first | refine T.known 25 rfl (congrArg Value.bool (decide_eq_true h25)) ?_ | refine T.known 25 rfl (congrArg Value.bool h25) ?_
     refine T.seq fun K14 hK14 => ?_
     refine T.region (l := [0, 1, 2, 3]) rfl ?_
     refine RN.m rfl ?_
     refine RN.p rfl (by first | exact (p_sliceN_s (l := 1) (h := 2) rfl Tryz.underlying9 rfl rfl rfl (by simp)) | exact (p_slice_s rfl Tryz.underlying9 rfl rfl rfl (by simp))) ?_
     refine RN.a rfl ?_
     refine RN.a rfl ?_
     refine RN.nil ?_
     refine hK14 _ _ ?_
     refine T.ret ?_
     refine Post.block_r ?_
     refine Post.seq_r ?_
     refine bodyQ_ret [] (RetRun.tmp (RetRun.tmp RetRun.nil)) ⟨[c], 2, rfl, one_pair (by first | exact .inl ⟨u8_of (n := 34) (by rw [h25]; rfl), u8_of (n := 34) (by rw [h25]; rfl)⟩ | exact .inr (.inl ⟨u8_of (n := 92) (by rw [h25]; rfl), u8_of (n := 92) (by rw [h25]; rfl)⟩)), rfl⟩ (Ent.refl _)
    ·
     first | refine T.known 25 rfl (congrArg Value.bool (decide_eq_false h25)) ?_ | refine T.known 25 rfl (congrArg Value.bool h25) ?_
     refine T.seq fun K15 hK15 => ?_
     refine T.region (l := [0, 1]) rfl ?_
     refine RN.p rfl (p_eql rfl rfl rfl) ?_
     refine RN.a rfl ?_
     refine RN.nil ?_
     refine hK15 _ _ ?_
     first | refine T.cond_dec rfl (fun h30 => ?_) (fun h30 => ?_) | refine T.cond rfl (fun h30 => ?_) (fun h30 => ?_)
     ·
      refine T.seq fun K16 hK16 => ?_
      refine T.region (l := [0, 1]) rfl ?_
      refine RN.a rfl ?_
      refine RN.a rfl ?_
      refine RN.nil ?_
      refine hK16 _ _ ?_
      refine T.ret ?_
      refine Post.block_r ?_
      refine Post.seq_r ?_
      refine bodyQ_ret [] (RetRun.tmp (RetRun.tmp RetRun.nil)) ⟨[10], 2, rfl, one_pair (.inr (.inr (.inl ⟨u8_of (n := 110) (by rw [h30]; rfl), rfl⟩))), rfl⟩ (Ent.refl _)
     ·
      refine T.seq fun K17 hK17 => ?_
      refine T.region (l := [0, 1]) rfl ?_
      refine RN.p rfl (p_eql rfl rfl rfl) ?_
      refine RN.a rfl ?_
      refine RN.nil ?_
      refine hK17 _ _ ?_
      first | refine T.cond_dec rfl (fun h32 => ?_) (fun h32 => ?_) | refine T.cond rfl (fun h32 => ?_) (fun h32 => ?_)
      ·
       refine T.seq fun K18 hK18 => ?_
       refine T.region (l := [0, 1]) rfl ?_
       refine RN.a rfl ?_
       refine RN.a rfl ?_
       refine RN.nil ?_
       refine hK18 _ _ ?_
       refine T.ret ?_
       refine Post.block_r ?_
       refine Post.seq_r ?_
       refine bodyQ_ret [] (RetRun.tmp (RetRun.tmp RetRun.nil)) ⟨[9], 2, rfl, one_pair (.inr (.inr (.inr (.inl ⟨u8_of (n := 116) (by rw [h32]; rfl), rfl⟩)))), rfl⟩ (Ent.refl _)
      ·
       refine T.seq fun K19 hK19 => ?_
       refine T.region (l := [0, 1]) rfl ?_
       refine RN.p rfl (p_eql rfl rfl rfl) ?_
       refine RN.a rfl ?_
       refine RN.nil ?_
       refine hK19 _ _ ?_
       first | refine T.cond_dec rfl (fun h34 => ?_) (fun h34 => ?_) | refine T.cond rfl (fun h34 => ?_) (fun h34 => ?_)
       ·
        refine T.seq fun K20 hK20 => ?_
        refine T.region (l := [0, 1]) rfl ?_
        refine RN.a rfl ?_
        refine RN.a rfl ?_
        refine RN.nil ?_
        refine hK20 _ _ ?_
        refine T.ret ?_
        refine Post.block_r ?_
        refine Post.seq_r ?_
        refine bodyQ_ret [] (RetRun.tmp (RetRun.tmp RetRun.nil)) ⟨[0], 2, rfl, one_pair (.inr (.inr (.inr (.inr ⟨u8_of (n := 48) (by rw [h34]; rfl), rfl⟩)))), rfl⟩ (Ent.refl _)
       ·
        refine T.seq fun K21 hK21 => ?_
        refine T.region (l := [0, 1]) rfl ?_
        refine RN.p rfl (p_eql rfl rfl rfl) ?_
        refine RN.a rfl ?_
        refine RN.nil ?_
        refine hK21 _ _ ?_
        first | refine T.cond_dec rfl (fun h36 => ?_) (fun h36 => ?_) | refine T.cond rfl (fun h36 => ?_) (fun h36 => ?_)
        ·
         refine T.seq fun K22 hK22 => ?_
         refine T.region (l := [0, 1, 2, 3]) rfl ?_
         refine RN.m rfl ?_
         refine RN.p rfl (by first | exact (p_slice_s_lo (l := 2) rfl Tryz.underlying9 rfl rfl (by simp)) | exact (p_sliceN_s (l := 2) rfl Tryz.underlying9 rfl rfl rfl (by simp)) | exact (p_slice_s rfl Tryz.underlying9 rfl rfl rfl (by simp))) ?_
         refine RN.C [] rfl rfl rfl rfl (c_call rfl rfl) (Dig_spec r 2 (by omega)) rfl ?_
         rintro _ _ ⟨d, rfl, hx, rfl⟩
         refine RN.a rfl ?_
         refine RN.nil ?_
         refine hK22 _ _ ?_
         refine T.seq fun K23 hK23 => ?_
         refine T.seq fun K24 hK24 => ?_
         refine T.region (l := [0, 1]) rfl ?_
         refine RN.m rfl ?_
         refine RN.p rfl (p_lss rfl rfl rfl) ?_
         refine RN.nil ?_
         refine hK24 _ _ ?_
         first | refine T.cond_dec rfl (fun h42 => ?_) (fun h42 => ?_) | refine T.cond rfl (fun h42 => ?_) (fun h42 => ?_)
         ·
          rcases hx with ⟨u, hx1, _⟩ | ⟨_, hx2⟩
          · omega
          refine T.seq fun K25 hK25 => ?_
          refine T.region (l := [0, 1]) rfl ?_
          refine RN.a rfl ?_
          refine RN.a rfl ?_
          refine RN.nil ?_
          refine hK25 _ _ ?_
          refine T.ret ?_
          refine Post.seq_r ?_
          refine Post.block_r ?_
          refine Post.seq_r ?_
          obtain rfl := u8_of (n := 120) (by rw [h36]; rfl)
          refine bodyQ_ret [] (RetRun.tmp (RetRun.tmp RetRun.nil)) ⟨[], 0, rfl, one_x0 hx2, rfl⟩ (Ent.refl _)
         ·
          obtain ⟨v, rfl, hx2⟩ : ∃ v : Nat, d = (v : Int) ∧ hexP r 2 = some v := by
           rcases hx with h | ⟨hx1, _⟩
           · exact h
           · omega
          have hv256 : v < 256 := hexP_lt hx2
          refine T.skip ?_
          refine hK23 _ _ ?_
          refine T.seq fun K26 hK26 => ?_
          refine T.region (l := [0, 1, 2, 3, 4, 5]) rfl ?_
          refine RN.m rfl ?_
          refine RN.p rfl (p_conv_u8 rfl Tryz.underlying3 Tryz.underlying5 rfl (by omega)) ?_
          rw [u8_val hv256]
          refine RN.E rfl rfl rfl rfl (e_buildSlice1 rfl Tryz.underlying68 ti_5 rfl (by conv => lhs; whnf) rfl) ?_
          rintro _ _ ⟨b45, rfl, rfl⟩
          refine RN.u rfl (q_bytes_str (l := [UInt8.ofNat v]) rfl Tryz.underlying68 Tryz.underlying5 Tryz.underlying9 rfl (i := 0) rfl (by simp) rfl) ?_
          refine RN.a rfl ?_
          refine RN.a rfl ?_
          refine RN.nil ?_
          refine hK26 _ _ ?_
          refine T.ret ?_
          refine Post.block_r ?_
          refine Post.seq_r ?_
          obtain rfl := u8_of (n := 120) (by rw [h36]; rfl)
          refine bodyQ_ret [] (RetRun.tmp (RetRun.tmp RetRun.nil)) ⟨[UInt8.ofNat v], 4, rfl, one_x hx2, rfl⟩ (Ent.pull_drop (is := [1]) rfl)
        ·
         refine T.seq fun K27 hK27 => ?_
         refine T.region (l := [0, 1]) rfl ?_
         refine RN.p rfl (p_eql rfl rfl rfl) ?_
         refine RN.a rfl ?_
         refine RN.nil ?_
         refine hK27 _ _ ?_
         first | refine T.cond_dec rfl (fun h47 => ?_) (fun h47 => ?_) | refine T.cond rfl (fun h47 => ?_) (fun h47 => ?_)
         ·
          refine T.seq fun K28 hK28 => ?_
          refine T.region (l := [0, 1, 2, 3]) rfl ?_
          refine RN.m rfl ?_
          refine RN.p rfl (by first | exact (p_slice_s_lo (l := 2) rfl Tryz.underlying9 rfl rfl (by simp)) | exact (p_sliceN_s (l := 2) rfl Tryz.underlying9 rfl rfl rfl (by simp)) | exact (p_slice_s rfl Tryz.underlying9 rfl rfl rfl (by simp))) ?_
          refine RN.C [] rfl rfl rfl rfl (c_call rfl rfl) (Dig_spec r 4 (by omega)) rfl ?_
          rintro _ _ ⟨d, rfl, hx, rfl⟩
          refine RN.a rfl ?_
          refine RN.nil ?_
          refine hK28 _ _ ?_
          refine T.seq fun K29 hK29 => ?_
          refine T.seq fun K30 hK30 => ?_
          refine T.region (l := [0, 1]) rfl ?_
          refine RN.m rfl ?_
          refine RN.p rfl (p_lss rfl rfl rfl) ?_
          refine RN.nil ?_
          refine hK30 _ _ ?_
          first | refine T.cond_dec rfl (fun h53 => ?_) (fun h53 => ?_) | refine T.cond rfl (fun h53 => ?_) (fun h53 => ?_)
          ·
           rcases hx with ⟨u, hx1, _⟩ | ⟨_, hx2⟩
           · omega
           refine T.seq fun K31 hK31 => ?_
           refine T.region (l := [0, 1]) rfl ?_
           refine RN.a rfl ?_
           refine RN.a rfl ?_
           refine RN.nil ?_
           refine hK31 _ _ ?_
           refine T.ret ?_
           refine Post.seq_r ?_
           refine Post.block_r ?_
           refine Post.seq_r ?_
           obtain rfl := u8_of (n := 117) (by rw [h47]; rfl)
           refine bodyQ_ret [] (RetRun.tmp (RetRun.tmp RetRun.nil)) ⟨[], 0, rfl, one_u0 hx2, rfl⟩ (Ent.refl _)
          ·
           obtain ⟨v, rfl, hx2⟩ : ∃ v : Nat, d = (v : Int) ∧ hexP r 4 = some v := by
            rcases hx with h | ⟨hx1, _⟩
            · exact h
            · omega
           refine T.skip ?_
           refine hK29 _ _ ?_
           refine T.seq fun K32 hK32 => ?_
           refine T.region (l := [0, 1, 2, 3]) rfl ?_
           refine RN.m rfl ?_
           refine RN.C [] rfl rfl rfl rfl (c_call rfl rfl) (Raw_spec v (hexP_lt hx2)) rfl ?_
           rintro _ _ ⟨x, rfl, hxe, hxn, hxl, rfl⟩
           refine RN.a rfl ?_
           refine RN.a rfl ?_
           refine RN.nil ?_
           refine hK32 _ _ ?_
           refine T.ret ?_
           refine Post.block_r ?_
           refine Post.seq_r ?_
           obtain rfl := u8_of (n := 117) (by rw [h47]; rfl)
           refine bodyQ_ret [] (RetRun.tmp (RetRun.tmp RetRun.nil)) ⟨x, 6, rfl, one_u hx2 hxe hxn hxl, rfl⟩ (Ent.refl _)
         ·
          refine T.skip ?_
          refine hK9 _ _ ?_
          refine T.seq fun K33 hK33 => ?_
          refine T.region (l := [0, 1]) rfl ?_
          refine RN.a rfl ?_
          refine RN.a rfl ?_
          refine RN.nil ?_
          refine hK33 _ _ ?_
          refine T.ret ?_
          refine bodyQ_ret [] (RetRun.tmp (RetRun.tmp RetRun.nil)) ⟨[], 0, rfl, one_other (ne34 (by assumption)) (ne92 (by assumption)) (ne_of h30) (ne_of h32) (ne_of h34) (ne_of h36) (ne_of h47), rfl⟩ (Ent.refl _)

theorem RRead_spec (l : List UInt8) (hl : l.length ≤ 100000000) : Ctr Tryz.prog 31 [strV l] [] (fun w Ps => ∃ s n ok, w = .tuple #[strV s, intV n, .bool ok] ∧ (∃ e, RdQ l s n e ∧ ok = decide (e = 0)) ∧ s.length ≤ l.length ∧ Ps = []) := by
 refine Ctr.of_body Tryz.func31 rfl (by kernel_rfl) Tryz.ntmps31 rfl rfl (fun Fr => ?_)
 refine T.seq fun K1 hK1 => ?_
 refine T.region (l := [0, 1, 2]) rfl ?_
 refine RN.a rfl ?_
 refine RN.a rfl ?_
 refine RN.a rfl ?_
 refine RN.nil ?_
 refine hK1 _ _ ?_
 refine T.seq fun K2 hK2 => ?_
 refine T.seq fun K3 hK3 => ?_
 refine T.region (l := [0, 1, 2, 3, 4, 5, 6, 7]) rfl ?_
 refine RN.m rfl ?_
 refine RN.p rfl (p_len_s rfl Tryz.underlying9 rfl) ?_
 refine RN.p rfl (p_eql rfl rfl rfl) ?_
 refine RN.m rfl ?_
 first | refine RN.split_dec 12 rfl (fun h12 => ?_) (fun h12 => ?_) | refine RN.split 12 rfl (fun h12 => ?_) (fun h12 => ?_)
 ·
  refine RN.no0 rfl ?_
  refine RN.no0 rfl ?_
  refine RN.no0 rfl ?_
  refine RN.pt rfl ?_
  refine RN.nil ?_
  refine hK3 _ _ ?_
  refine T.cond_t rfl ?_
  refine T.seq fun K4 hK4 => ?_
  refine T.region (l := [0, 1, 2]) rfl ?_
  refine RN.a rfl ?_
  refine RN.a rfl ?_
  refine RN.a rfl ?_
  refine RN.nil ?_
  refine hK4 _ _ ?_
  refine T.ret ?_
  refine Post.seq_r ?_
  refine bodyQ_ret [] (RetRun.tmp (RetRun.tmp (RetRun.tmp RetRun.nil))) ⟨[], 0, false, rfl, ⟨3, .inr ⟨rfl, rfl, rfl, none_head (by first | (rw [List.eq_nil_of_length_eq_zero (l := l) (by omega)]; exact (by decide)) | (rw [at0_get (by omega)]; omega))⟩, rfl⟩, Nat.zero_le _, rfl⟩ (Ent.refl _)
 ·
  refine RN.m rfl ?_
  refine RN.p rfl (by first | exact (p_indexN_s (n := 0) rfl Tryz.underlying9 rfl rfl (List.getElem?_eq_getElem (by omega))) | exact (p_index_s rfl Tryz.underlying9 rfl rfl (List.getElem?_eq_getElem (by omega)))) ?_
  refine RN.p rfl (p_neq rfl rfl rfl) ?_
  refine RN.pf rfl ?_
  refine RN.nil ?_
  refine hK3 _ _ ?_
  first | refine T.cond_dec rfl (fun h16 => ?_) (fun h16 => ?_) | refine T.cond rfl (fun h16 => ?_) (fun h16 => ?_)
  ·
   refine T.seq fun K5 hK5 => ?_
   refine T.region (l := [0, 1, 2]) rfl ?_
   refine RN.a rfl ?_
   refine RN.a rfl ?_
   refine RN.a rfl ?_
   refine RN.nil ?_
   refine hK5 _ _ ?_
   refine T.ret ?_
   refine Post.seq_r ?_
   refine bodyQ_ret [] (RetRun.tmp (RetRun.tmp (RetRun.tmp RetRun.nil))) ⟨[], 0, false, rfl, ⟨3, .inr ⟨rfl, rfl, rfl, none_head (by first | (rw [List.eq_nil_of_length_eq_zero (l := l) (by omega)]; exact (by decide)) | (rw [at0_get (by omega)]; omega))⟩, rfl⟩, Nat.zero_le _, rfl⟩ (Ent.refl _)
  ·
   have hl1 : 1 ≤ l.length := by omega
   refine T.skip ?_
   refine hK2 _ _ ?_
   refine T.seq fun K6 hK6 => ?_
   refine T.region (l := [0]) rfl ?_
   refine RN.a rfl ?_
   refine RN.nil ?_
   refine hK6 _ _ ?_
   refine T.seq fun K7 hK7 => ?_
   refine T.region (l := [0]) rfl ?_
   refine RN.a rfl ?_
   refine RN.nil ?_
   refine hK7 _ _ ?_
   refine T.seq fun K8 hK8 => ?_
   refine T.block ?_
   refine T.loop (G := Nat × List UInt8 × Value) (fun ⟨i, q, v5⟩ => 1 ≤ i ∧ i ≤ l.length ∧ q.length ≤ i ∧ InvR l i q ∧ v5.oneCell' = true) (fun ⟨i, q, v5⟩ => [(0, strV l), (5, v5), (6, intV i)]) (fun ⟨i, q, v5⟩ => [vec 5 1 v5 q.length (q.map u8V), Fr]) (fun ⟨i, q, v5⟩ => l.length - i) (1, [], .slice none 0 0) ⟨Nat.le_refl _, hl1, Nat.zero_le _, inv_init, rfl⟩ (LiveIs.cons rfl (LiveIs.cons rfl (LiveIs.cons rfl LiveIs.nil))) Ent.vec_nil' ?_
   rintro ⟨i, q, v5⟩ e9 ⟨hi1, hil, hqi, hinv, hv5⟩
   dsimp only
   refine T.seq fun K10 hK10 => ?_
   refine T.seq fun K11 hK11 => ?_
   refine T.region (l := [0, 1, 2, 3, 4, 5, 6, 7, 8, 9]) rfl ?_
   refine RN.m rfl ?_
   refine RN.m rfl ?_
   refine RN.p rfl (p_len_s rfl Tryz.underlying9 rfl) ?_
   refine RN.p rfl (p_lss rfl rfl rfl) ?_
   refine RN.m rfl ?_
   first | refine RN.split_dec 21 rfl (fun h21 => ?_) (fun h21 => ?_) | refine RN.split 21 rfl (fun h21 => ?_) (fun h21 => ?_)
   ·
    have hlt : i < l.length := by omega
    refine RN.m rfl ?_
    refine RN.m rfl ?_
    refine RN.p rfl (by first | exact (p_indexN_s rfl Tryz.underlying9 rfl rfl (List.getElem?_eq_getElem hlt)) | exact (p_index_s rfl Tryz.underlying9 rfl rfl (List.getElem?_eq_getElem hlt))) ?_
    refine RN.p rfl (p_neq rfl rfl rfl) ?_
    refine RN.pt rfl ?_
    refine RN.nil ?_
    refine hK11 _ _ ?_
    first | refine T.cond_dec rfl (fun h26 => ?_) (fun h26 => ?_) | refine T.cond rfl (fun h26 => ?_) (fun h26 => ?_)
    ·
     have hn34 : at0 l i ≠ 34 := by rw [at0_get hlt]; omega
     refine T.skip ?_
     refine hK10 _ _ ?_
     refine T.block ?_
     refine T.seq fun K12 hK12 => ?_
     refine T.region (l := [0, 1, 2, 3, 4, 5, 6, 7, 8]) rfl ?_
     refine RN.m rfl ?_
     refine RN.m rfl ?_
     refine RN.p rfl (by first | exact (p_slice_s_lo rfl Tryz.underlying9 rfl rfl (by omega)) | exact (p_sliceN_s rfl Tryz.underlying9 rfl rfl rfl (by omega)) | exact (p_slice_s rfl Tryz.underlying9 rfl rfl rfl (by omega))) ?_
     refine RN.C [] rfl rfl rfl rfl (c_call rfl rfl) (ROne_spec (l.drop i) (drop_ne hlt)) rfl ?_
     rintro _ _ ⟨x, k, rfl, ho, rfl⟩
     refine RN.m rfl ?_
     refine RN.p rfl (p_extract rfl rfl rfl) ?_
     refine RN.p rfl (p_extract rfl rfl rfl) ?_
     refine RN.a rfl ?_
     refine RN.a rfl ?_
     refine RN.nil ?_
     refine hK12 _ _ ?_
     refine T.seq fun K13 hK13 => ?_
     refine T.seq fun K14 hK14 => ?_
     refine T.region (l := [0, 1]) rfl ?_
     refine RN.m rfl ?_
     refine RN.p rfl (p_eql rfl rfl rfl) ?_
     refine RN.nil ?_
     refine hK14 _ _ ?_
     first | refine T.cond_dec rfl (fun h35 => ?_) (fun h35 => ?_) | refine T.cond rfl (fun h35 => ?_) (fun h35 => ?_)
     ·
      refine T.seq fun K15 hK15 => ?_
      refine T.region (l := [0, 1, 2]) rfl ?_
      refine RN.a rfl ?_
      refine RN.a rfl ?_
      refine RN.a rfl ?_
      refine RN.nil ?_
      refine hK15 _ _ ?_
      refine T.ret ?_
      refine Post.seq_r ?_
      refine Post.block_r ?_
      refine Post.seq_r ?_
      refine Post.block_r ?_
      refine Post.seq_r ?_
      refine bodyQ_ret [] (RetRun.tmp (RetRun.tmp (RetRun.tmp RetRun.nil))) ⟨[], 0, false, rfl, ⟨3, .inr ⟨rfl, rfl, rfl, inv_zero (x := x) hinv hn34 (by rw [show k = 0 from by omega] at ho; exact ho)⟩, rfl⟩, Nat.zero_le _, rfl⟩ (Ent.pull_drop (is := [1]) rfl)
     ·
      have hol := ho.le
      have hox := ho.len
      rw [List.length_drop] at hol
      refine T.skip ?_
      refine hK13 _ _ ?_
      refine T.seq fun K16 hK16 => ?_
      refine T.region (l := [0, 1, 2, 3]) rfl ?_
      refine RN.m rfl ?_
      refine RN.m rfl ?_
      refine RN.E rfl rfl rfl rfl (e_append rfl Tryz.underlying68 ni_9 ti_5 rfl rfl (i := 0) rfl src_str one_u8 (by omega)) ?_
      rintro v38 _ ⟨hv38, rfl⟩
      refine RN.a rfl ?_
      refine RN.nil ?_
      refine hK16 _ _ ?_
      refine T.region (l := [0, 1, 2, 3]) rfl ?_
      refine RN.m rfl ?_
      refine RN.m rfl ?_
      refine RN.p rfl (by first | exact (p_addN rfl rfl rfl (by omega)) | exact (p_add rfl rfl rfl (by omega))) ?_
      refine RN.a rfl ?_
      refine RN.nil ?_
      refine ⟨(i + k, q ++ x, v38), ⟨by omega, by omega, by rw [List.length_append]; omega, inv_step hinv hn34 ho, hv38⟩, (by show _ - (i + k) < _ - i; omega), (LiveIs.cons rfl (LiveIs.cons rfl (LiveIs.cons rfl LiveIs.nil))), (Ent.cons (vec_eq (by rw [List.length_append]) (by rw [List.map_append])) (Ent.refl _))⟩
    ·
     have hc34 : at0 l i = 34 := by rw [at0_get hlt]; omega
     refine T.exit ?_
     refine Post.seq_x ?_
     refine Post.seq_x ?_
     refine Post.block_hit ?_
     refine hK8 _ _ ?_
     refine T.seq fun K17 hK17 => ?_
     refine T.seq fun K18 hK18 => ?_
     refine T.regionD (z := 7) (Bs := [vec 5 1 v5 q.length (q.map u8V)]) (l := [(0, .pure), (1, .pure), (2, .pure), (3, .pure), (4, .pure), (5, .pure), (6, .load), (8, .pure), (9, .pure), (10, .pure), (11, .pure), (7, .eff), (12, .pure), (13, .pure)]) mixed (by kernel_rfl) (by first | exact Ent.refl _ | exact Ent.pull_drop (is := [0]) rfl | exact Ent.pull_drop (is := [1]) rfl | exact Ent.pull_drop (is := [2]) rfl | exact Ent.pull_drop (is := [3]) rfl | exact Ent.pull_drop (is := [4]) rfl | exact Ent.pull_drop (is := [5]) rfl | exact Ent.pull_drop (is := [6]) rfl | exact Ent.pull_drop (is := [7]) rfl) ?_
     refine RD.n rfl (p_move rfl (by conv => lhs; whnf)) ?_
     refine RD.n rfl (p_move rfl (by conv => lhs; whnf)) ?_
     refine RD.n rfl (p_len_s rfl Tryz.underlying9 rfl) ?_
     refine RD.n rfl (p_eql rfl rfl rfl) ?_
     refine RD.n rfl (p_move rfl (by conv => lhs; whnf)) ?_
     refine RD.known 46 rfl (show _ = Value.bool false from congrArg Value.bool (decide_eq_false (by omega))) ?_
     refine RD.n rfl (p_move rfl (by conv => lhs; whnf)) ?_
     refine RD.qq rfl rfl rfl rfl (q_vec_str (l := q) rfl Tryz.underlying68 Tryz.underlying5 Tryz.underlying9 rfl (i := 0) rfl rfl rfl) (by first | exact Ent.refl _ | exact Ent.pull_drop (is := [0]) rfl) ?_
     refine RD.n rfl (p_move rfl (by conv => lhs; whnf)) ?_
     refine RD.n rfl (p_move rfl (by conv => lhs; whnf)) ?_
     refine RD.n rfl (by first | exact (p_addN (b := 1) rfl rfl rfl (by omega)) | exact (p_add rfl rfl rfl (by omega))) ?_
     refine RD.n rfl (by first | exact (p_slice_s_hi rfl Tryz.underlying9 rfl rfl (by omega)) | exact (p_sliceN_s (l := 0) rfl Tryz.underlying9 rfl rfl rfl (by omega)) | exact (p_slice_s rfl Tryz.underlying9 rfl rfl rfl (by omega))) ?_
     refine RD.C [] rfl rfl rfl rfl (c_call rfl rfl) (RQuote_spec q (by omega)) rfl (fun _ _ _ => .inr rfl) ?_
     rintro _ _ ⟨rfl, rfl⟩
     refine RD.n rfl (p_sneq rfl rfl rfl) ?_
     refine RD.n rfl (p_pick_f rfl rfl (by conv => lhs; whnf)) ?_
     refine RD.nil ?_
     refine hK18 _ _ ?_
     first | refine T.cond_dec rfl (fun h55 => ?_) (fun h55 => ?_) | refine T.cond rfl (fun h55 => ?_) (fun h55 => ?_)
     ·
      refine T.seq fun K19 hK19 => ?_
      refine T.region (l := [0, 1, 2]) rfl ?_
      refine RN.a rfl ?_
      refine RN.a rfl ?_
      refine RN.a rfl ?_
      refine RN.nil ?_
      refine hK19 _ _ ?_
      refine T.ret ?_
      refine Post.seq_r ?_
      refine bodyQ_ret [] (RetRun.tmp (RetRun.tmp (RetRun.tmp RetRun.nil))) ⟨[], 0, false, rfl, ⟨3, .inr ⟨rfl, rfl, rfl, inv_fail hinv hc34 h55⟩, rfl⟩, Nat.zero_le _, rfl⟩ (Ent.pull_drop (is := [1]) rfl)
     ·
      refine T.skip ?_
      refine hK17 _ _ ?_
      refine T.seq fun K20 hK20 => ?_
      refine T.region (l := [0, 1, 2, 3, 4, 5, 6]) rfl ?_
      refine RN.m rfl ?_
      refine RN.u rfl (q_vec_str (l := q) rfl Tryz.underlying68 Tryz.underlying5 Tryz.underlying9 rfl (i := 0) rfl rfl rfl) ?_
      refine RN.m rfl ?_
      refine RN.p rfl (by first | exact (p_addN (b := 1) rfl rfl rfl (by omega)) | exact (p_add rfl rfl rfl (by omega))) ?_
      refine RN.a rfl ?_
      refine RN.a rfl ?_
      refine RN.a rfl ?_
      refine RN.nil ?_
      refine hK20 _ _ ?_
      refine T.ret ?_
      refine bodyQ_ret [] (RetRun.tmp (RetRun.tmp (RetRun.tmp RetRun.nil))) ⟨q, i + 1, true, rfl, ⟨0, rd_yes hlt (Classical.not_not.1 h55), rfl⟩, by omega, rfl⟩ (Ent.pull_drop (is := [1]) rfl)
   ·
    refine RN.no0 rfl ?_
    refine RN.no0 rfl ?_
    refine RN.no0 rfl ?_
    refine RN.no0 rfl ?_
    refine RN.pf rfl ?_
    refine RN.nil ?_
    refine hK11 _ _ ?_
    refine T.cond_f rfl ?_
    refine T.exit ?_
    refine Post.seq_x ?_
    refine Post.seq_x ?_
    refine Post.block_hit ?_
    refine hK8 _ _ ?_
    refine T.seq fun K21 hK21 => ?_
    refine T.seq fun K22 hK22 => ?_
    refine T.regionD (z := 7) (Bs := [vec 5 1 v5 q.length (q.map u8V)]) (l := [(0, .pure), (1, .pure), (2, .pure), (3, .pure), (4, .pure), (5, .pure), (6, .load), (8, .pure), (9, .pure), (10, .pure), (11, .pure), (7, .eff), (12, .pure), (13, .pure)]) mixed (by kernel_rfl) (by first | exact Ent.refl _ | exact Ent.pull_drop (is := [0]) rfl | exact Ent.pull_drop (is := [1]) rfl | exact Ent.pull_drop (is := [2]) rfl | exact Ent.pull_drop (is := [3]) rfl | exact Ent.pull_drop (is := [4]) rfl | exact Ent.pull_drop (is := [5]) rfl | exact Ent.pull_drop (is := [6]) rfl | exact Ent.pull_drop (is := [7]) rfl) ?_
    refine RD.n rfl (p_move rfl (by conv => lhs; whnf)) ?_
    refine RD.n rfl (p_move rfl (by conv => lhs; whnf)) ?_
    refine RD.n rfl (p_len_s rfl Tryz.underlying9 rfl) ?_
    refine RD.n rfl (p_eql rfl rfl rfl) ?_
    refine RD.n rfl (p_move rfl (by conv => lhs; whnf)) ?_
    refine RD.known 46 rfl (show _ = Value.bool true from congrArg Value.bool (decide_eq_true (by omega))) ?_
    refine RD.OP rfl rfl rfl rfl ?_
    refine RD.OL rfl rfl rfl rfl (by first | exact Ent.refl _ | exact Ent.pull_drop (is := [0]) rfl | exact Ent.pull_drop (is := [1]) rfl | exact Ent.pull_drop (is := [2]) rfl | exact Ent.pull_drop (is := [3]) rfl | exact Ent.pull_drop (is := [4]) rfl | exact Ent.pull_drop (is := [5]) rfl | exact Ent.pull_drop (is := [6]) rfl | exact Ent.pull_drop (is := [7]) rfl) ?_
    refine RD.OP rfl rfl rfl rfl ?_
    refine RD.OP rfl rfl rfl rfl ?_
    refine RD.OP rfl rfl rfl rfl ?_
    refine RD.OP rfl rfl rfl rfl ?_
    refine RD.OE rfl rfl rfl rfl (.inr rfl) ?_
    refine RD.OP rfl rfl rfl rfl ?_
    refine RD.n rfl (p_pick_t rfl rfl (by conv => lhs; whnf)) ?_
    refine RD.nil ?_
    refine hK22 _ _ ?_
    refine T.cond_t rfl ?_
    refine T.seq fun K23 hK23 => ?_
    refine T.region (l := [0, 1, 2]) rfl ?_
    refine RN.a rfl ?_
    refine RN.a rfl ?_
    refine RN.a rfl ?_
    refine RN.nil ?_
    refine hK23 _ _ ?_
    refine T.ret ?_
    refine Post.seq_r ?_
    refine bodyQ_ret [] (RetRun.tmp (RetRun.tmp (RetRun.tmp RetRun.nil))) ⟨[], 0, false, rfl, ⟨3, .inr ⟨rfl, rfl, rfl, inv_end hinv (by omega)⟩, rfl⟩, Nat.zero_le _, rfl⟩ (Ent.pull_drop (is := [1]) rfl)

end Go.Proofs.YtokbjejbgbdkoaaGreatDoor
