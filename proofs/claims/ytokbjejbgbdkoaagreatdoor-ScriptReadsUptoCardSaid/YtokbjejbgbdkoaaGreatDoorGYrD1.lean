/-
 The reference of scripts: walked.
-/
import Derived.Test.YtokbjejbgbdkoaaGreatDoorGYrC4
set_option linter.unusedVariables false
set_option linter.unusedSimpArgs false
namespace Go.Proofs.YtokbjejbgbdkoaaGreatDoor
open Go Go.Sl Go.Proofs
set_option maxRecDepth 20000
open Go.Mo Go.Proofs Go.Shelf Go.RowKit
theorem head_iff {w : List UInt8} (hp : 0 < w.length) : w.head? = some 45 ↔ (w[0].toNat : Int) = 45 := by
 cases w with
 | nil => simp at hp
 | cons c r =>
  show some c = some 45 ↔ (c.toNat : Int) = 45
  constructor
  · intro h; cases h; rfl
  · intro h; rw [show c = 45 from u8_of (by rw [h]; rfl)]
theorem trim_yes {w : List UInt8} (h : w.head? = some 45) : trimM w = w.drop 1 := by
 unfold trimM
 rw [if_pos h, List.drop_one]
theorem trim_no {w : List UInt8} (h : ¬ w.head? = some 45) : trimM w = w := by unfold trimM; rw [if_neg h]
theorem dec_none {d : List UInt8} {p : Nat} (hp : p < d.length) (h : d[p].toNat < 48 ∨ 57 < d[p].toNat) : Lib.decFrom 0 d = none := by
 cases hd : Lib.decFrom 0 d with
 | none => rfl
 | some n =>
  obtain ⟨u, hu⟩ := Lib.digit_of_decFrom _ _ _ hd p d[p] (List.getElem?_eq_getElem hp)
  have hu := Lib.digitVal_eq hu
  omega
theorem dec_next {d : List UInt8} {i m : Nat} (hi : i < d.length) (h : Lib.decFrom 0 (d.take i) = some m) (h1 : 48 ≤ d[i].toNat) (h2 : d[i].toNat ≤ 57) : Lib.decFrom 0 (d.take (i + 1)) = some (10 * m + (d[i].toNat - 48)) := by
 rw [Lib.decFrom_take _ _ _ _ _ _ h (List.getElem?_eq_getElem hi) (dig_of h1 h2), Nat.mul_comm]
theorem dec_lt9 {d : List UInt8} {i m : Nat} (hd : d.length ≤ 9) (h : Lib.decFrom 0 (d.take i) = some m) : m < 1000000000 := by
 have h1 := Lib.decFrom_lt _ _ _ h
 have h2 : (d.take i).length ≤ 9 := by rw [List.length_take]; omega
 have : 10 ^ (d.take i).length ≤ 10 ^ 9 := Nat.pow_le_pow_right (by omega) h2
 omega
theorem numP_yes {w : List UInt8} {m : Nat} (hg : ¬ (trimM w = [] ∨ 9 < (trimM w).length)) (hm : Lib.decFrom 0 (trimM w) = some m) : numP w = some (if w.head? = some 45 then -(m : Int) else (m : Int)) := by
 unfold numP
 rw [if_neg hg, hm]
 rfl

theorem RNumber_spec (w : List UInt8) (hw : w.length ≤ 1000000000) : Ctr Tryz.prog 29 [strV w] [] (fun u Ps => ∃ v ok, u = .tuple #[.int .i64 v, .bool ok] ∧ ((ok = true ∧ numP w = some v) ∨ (ok = false ∧ numP w = none)) ∧ Ps = []) := by
 refine Ctr.of_body Tryz.func29 rfl (by kernel_rfl) Tryz.ntmps29 rfl rfl (fun Fr => ?_)
 refine T.seq fun K1 hK1 => ?_
 refine T.region (l := [0, 1]) rfl ?_
 refine RN.a rfl ?_
 refine RN.a rfl ?_
 refine RN.nil ?_
 refine hK1 _ _ ?_
 refine T.seq fun K2 hK2 => ?_
 refine T.region (l := [0, 1, 2, 3, 4, 5, 6, 7, 8]) rfl ?_
 refine RN.m rfl ?_
 refine RN.p rfl (p_len_s rfl Tryz.underlying9 rfl) ?_
 refine RN.p rfl (p_gtr rfl rfl rfl) ?_
 refine RN.m rfl ?_
 first | refine RN.split_dec 11 rfl (fun h11 => ?_) (fun h11 => ?_) | refine RN.split 11 rfl (fun h11 => ?_) (fun h11 => ?_)
 ·
  have hp : 0 < w.length := by omega
  refine RN.m rfl ?_
  refine RN.p rfl (by first | exact (p_indexN_s (n := 0) rfl Tryz.underlying9 rfl rfl (List.getElem?_eq_getElem hp)) | exact (p_index_s rfl Tryz.underlying9 rfl rfl (List.getElem?_eq_getElem hp))) ?_
  refine RN.p rfl (p_eql rfl rfl rfl) ?_
  refine RN.pt rfl ?_
  refine RN.a rfl ?_
  refine RN.nil ?_
  refine hK2 _ _ ?_
  refine T.seq fun K3 hK3 => ?_
  refine T.region (l := [0, 1]) rfl ?_
  refine RN.m rfl ?_
  refine RN.a rfl ?_
  refine RN.nil ?_
  refine hK3 _ _ ?_
  refine T.cut (G := Unit) (fun ⟨⟩ => True) (fun ⟨⟩ => [(4, .bool (decide (w.head? = some 45))), (5, strV (trimM w))]) (fun ⟨⟩ => [Fr]) ?_ ?_
  ·
   refine T.seq fun K5 hK5 => ?_
   refine T.region (l := [0]) rfl ?_
   refine RN.m rfl ?_
   refine RN.nil ?_
   refine hK5 _ _ ?_
   first | refine T.cond_dec rfl (fun h17 => ?_) (fun h17 => ?_) | refine T.cond rfl (fun h17 => ?_) (fun h17 => ?_)
   ·
    refine T.region (l := [0, 1, 2]) rfl ?_
    refine RN.m rfl ?_
    refine RN.p rfl (by first | exact (p_slice_s_lo (l := 1) rfl Tryz.underlying9 rfl rfl (by omega)) | exact (p_sliceN_s (l := 1) rfl Tryz.underlying9 rfl rfl rfl (by omega)) | exact (p_slice_s rfl Tryz.underlying9 rfl rfl rfl (by omega))) ?_
    refine RN.a rfl ?_
    refine RN.nil ?_
    refine ⟨(), trivial, (LiveIs.cons (congrArg Value.bool (decide_eq_decide.2 (head_iff hp).symm)) (LiveIs.cons (congrArg strV (trim_yes ((head_iff hp).2 h17)).symm) LiveIs.nil)), Ent.refl _⟩
   ·
    refine T.skip ?_
    refine ⟨(), trivial, (LiveIs.cons (congrArg Value.bool (decide_eq_decide.2 (head_iff hp).symm)) (LiveIs.cons (congrArg strV (trim_no (fun g => h17 ((head_iff hp).1 g))).symm) LiveIs.nil)), Ent.refl _⟩
  ·
   rintro ⟨⟩ e4 -
   refine T.seq fun K6 hK6 => ?_
   refine T.seq fun K7 hK7 => ?_
   refine T.region (l := [0, 1, 2, 3, 4, 5, 6, 7]) rfl ?_
   refine RN.m rfl ?_
   refine RN.p rfl (p_len_s rfl Tryz.underlying9 rfl) ?_
   refine RN.p rfl (p_eql rfl rfl rfl) ?_
   refine RN.m rfl ?_
   first | refine RN.split_dec 23 rfl (fun h23 => ?_) (fun h23 => ?_) | refine RN.split 23 rfl (fun h23 => ?_) (fun h23 => ?_)
   ·
    refine RN.no0 rfl ?_
    refine RN.no0 rfl ?_
    refine RN.no0 rfl ?_
    refine RN.pt rfl ?_
    refine RN.nil ?_
    refine hK7 _ _ ?_
    refine T.cond_t rfl ?_
    refine T.seq fun K8 hK8 => ?_
    refine T.region (l := [0, 1]) rfl ?_
    refine RN.a rfl ?_
    refine RN.a rfl ?_
    refine RN.nil ?_
    refine hK8 _ _ ?_
    refine T.ret ?_
    refine Post.seq_r ?_
    refine bodyQ_ret [] (RetRun.tmp (RetRun.tmp RetRun.nil)) ⟨0, false, rfl, .inr ⟨rfl, by unfold numP; rw [if_pos (by first | exact .inl (List.eq_nil_of_length_eq_zero (by omega)) | exact .inr (by omega))]⟩, rfl⟩ (Ent.refl _)
   ·
    refine RN.m rfl ?_
    refine RN.p rfl (p_len_s rfl Tryz.underlying9 rfl) ?_
    refine RN.p rfl (p_gtr rfl rfl rfl) ?_
    refine RN.pf rfl ?_
    refine RN.nil ?_
    refine hK7 _ _ ?_
    first | refine T.cond_dec rfl (fun h27 => ?_) (fun h27 => ?_) | refine T.cond rfl (fun h27 => ?_) (fun h27 => ?_)
    ·
     refine T.seq fun K9 hK9 => ?_
     refine T.region (l := [0, 1]) rfl ?_
     refine RN.a rfl ?_
     refine RN.a rfl ?_
     refine RN.nil ?_
     refine hK9 _ _ ?_
     refine T.ret ?_
     refine Post.seq_r ?_
     refine bodyQ_ret [] (RetRun.tmp (RetRun.tmp RetRun.nil)) ⟨0, false, rfl, .inr ⟨rfl, by unfold numP; rw [if_pos (by first | exact .inl (List.eq_nil_of_length_eq_zero (by omega)) | exact .inr (by omega))]⟩, rfl⟩ (Ent.refl _)
    ·
     have hgood : ¬ (trimM w = [] ∨ 9 < (trimM w).length) := by
      rintro (g | g)
      · rw [g] at h23; simp at h23
      · omega
     have h9 : (trimM w).length ≤ 9 := by omega
     refine T.skip ?_
     refine hK6 _ _ ?_
     refine T.seq fun K10 hK10 => ?_
     refine T.region (l := [0]) rfl ?_
     refine RN.a rfl ?_
     refine RN.nil ?_
     refine hK10 _ _ ?_
     refine T.seq fun K11 hK11 => ?_
     refine T.seq fun K12 hK12 => ?_
     refine T.region (l := [0]) rfl ?_
     refine RN.a rfl ?_
     refine RN.nil ?_
     refine hK12 _ _ ?_
     refine T.block ?_
     refine T.loop (G := Nat × Nat) (fun ⟨i, m⟩ => i ≤ (trimM w).length ∧ Lib.decFrom 0 ((trimM w).take i) = some m) (fun ⟨i, m⟩ => [(4, .bool (decide (w.head? = some 45))), (5, strV (trimM w)), (6, intV m), (7, intV i)]) (fun ⟨i, m⟩ => [Fr]) (fun ⟨i, m⟩ => (trimM w).length - i) (0, 0) ⟨Nat.zero_le _, rfl⟩ (LiveIs.cons rfl (LiveIs.cons rfl (LiveIs.cons rfl (LiveIs.cons rfl LiveIs.nil)))) (Ent.refl _) ?_
     rintro ⟨i, m⟩ e13 ⟨hin, hm⟩
     dsimp only
     refine T.seq fun K14 hK14 => ?_
     refine T.seq fun K15 hK15 => ?_
     refine T.region (l := [0, 1, 2, 3]) rfl ?_
     refine RN.m rfl ?_
     refine RN.m rfl ?_
     refine RN.p rfl (p_len_s rfl Tryz.underlying9 rfl) ?_
     refine RN.p rfl (p_lss rfl rfl rfl) ?_
     refine RN.nil ?_
     refine hK15 _ _ ?_
     first | refine T.cond_dec rfl (fun h31 => ?_) (fun h31 => ?_) | refine T.cond rfl (fun h31 => ?_) (fun h31 => ?_)
     ·
      have hil : i < (trimM w).length := by omega
      have hm9 := dec_lt9 h9 hm
      have hcl := (trimM w)[i].toNat_lt
      refine T.skip ?_
      refine hK14 _ _ ?_
      refine T.seq fun K16 hK16 => ?_
      refine T.block ?_
      refine T.seq fun K17 hK17 => ?_
      refine T.seq fun K18 hK18 => ?_
      refine T.region (l := [0, 1, 2, 3, 4, 5, 6, 7, 8, 9]) rfl ?_
      refine RN.m rfl ?_
      refine RN.m rfl ?_
      refine RN.p rfl (by first | exact (p_indexN_s rfl Tryz.underlying9 rfl rfl (List.getElem?_eq_getElem hil)) | exact (p_index_s rfl Tryz.underlying9 rfl rfl (List.getElem?_eq_getElem hil))) ?_
      refine RN.p rfl (p_lss rfl rfl rfl) ?_
      refine RN.m rfl ?_
      first | refine RN.split_dec 38 rfl (fun h38 => ?_) (fun h38 => ?_) | refine RN.split 38 rfl (fun h38 => ?_) (fun h38 => ?_)
      ·
       refine RN.no0 rfl ?_
       refine RN.no0 rfl ?_
       refine RN.no0 rfl ?_
       refine RN.no0 rfl ?_
       refine RN.pt rfl ?_
       refine RN.nil ?_
       refine hK18 _ _ ?_
       refine T.cond_t rfl ?_
       refine T.seq fun K19 hK19 => ?_
       refine T.region (l := [0, 1]) rfl ?_
       refine RN.a rfl ?_
       refine RN.a rfl ?_
       refine RN.nil ?_
       refine hK19 _ _ ?_
       refine T.ret ?_
       refine Post.seq_r ?_
       refine Post.block_r ?_
       refine Post.seq_r ?_
       refine Post.seq_r ?_
       refine Post.block_r ?_
       refine Post.seq_r ?_
       refine bodyQ_ret [] (RetRun.tmp (RetRun.tmp RetRun.nil)) ⟨0, false, rfl, .inr ⟨rfl, by unfold numP; rw [if_neg hgood, dec_none hil (by omega)]; rfl⟩, rfl⟩ (Ent.refl _)
      ·
       refine RN.m rfl ?_
       refine RN.m rfl ?_
       refine RN.p rfl (by first | exact (p_indexN_s rfl Tryz.underlying9 rfl rfl (List.getElem?_eq_getElem hil)) | exact (p_index_s rfl Tryz.underlying9 rfl rfl (List.getElem?_eq_getElem hil))) ?_
       refine RN.p rfl (p_gtr rfl rfl rfl) ?_
       refine RN.pf rfl ?_
       refine RN.nil ?_
       refine hK18 _ _ ?_
       first | refine T.cond_dec rfl (fun h43 => ?_) (fun h43 => ?_) | refine T.cond rfl (fun h43 => ?_) (fun h43 => ?_)
       ·
        refine T.seq fun K20 hK20 => ?_
        refine T.region (l := [0, 1]) rfl ?_
        refine RN.a rfl ?_
        refine RN.a rfl ?_
        refine RN.nil ?_
        refine hK20 _ _ ?_
        refine T.ret ?_
        refine Post.seq_r ?_
        refine Post.block_r ?_
        refine Post.seq_r ?_
        refine Post.seq_r ?_
        refine Post.block_r ?_
        refine Post.seq_r ?_
        refine bodyQ_ret [] (RetRun.tmp (RetRun.tmp RetRun.nil)) ⟨0, false, rfl, .inr ⟨rfl, by unfold numP; rw [if_neg hgood, dec_none hil (by omega)]; rfl⟩, rfl⟩ (Ent.refl _)
       ·
        refine T.skip ?_
        refine hK17 _ _ ?_
        refine T.region (l := [0, 1, 2, 3, 4, 5, 6, 7, 8]) rfl ?_
        refine RN.m rfl ?_
        refine RN.p rfl (by first | exact (p_mulN (a := 10) rfl rfl rfl (by omega)) | exact (p_mul rfl rfl rfl (by omega))) ?_
        refine RN.m rfl ?_
        refine RN.m rfl ?_
        refine RN.p rfl (by first | exact (p_indexN_s rfl Tryz.underlying9 rfl rfl (List.getElem?_eq_getElem hil)) | exact (p_index_s rfl Tryz.underlying9 rfl rfl (List.getElem?_eq_getElem hil))) ?_
        refine RN.p rfl (p_subN8 (b := 48) rfl rfl rfl (by omega)) ?_
        refine RN.p rfl (p_conv_i64 rfl Tryz.underlying5 Tryz.underlying3 rfl (by omega)) ?_
        refine RN.p rfl (by first | exact (p_addN rfl rfl rfl (by omega)) | exact (p_add rfl rfl rfl (by omega))) ?_
        refine RN.a rfl ?_
        refine RN.nil ?_
        refine hK16 _ _ ?_
        refine T.region (l := [0, 1, 2]) rfl ?_
        refine RN.m rfl ?_
        refine RN.p rfl (by first | exact (p_addN (b := 1) rfl rfl rfl (by omega)) | exact (p_add rfl rfl rfl (by omega))) ?_
        refine RN.a rfl ?_
        refine RN.nil ?_
        refine ⟨(i + 1, 10 * m + ((trimM w)[i].toNat - 48)), ⟨hil, dec_next hil hm (by omega) (by omega)⟩, (by show _ - (i + 1) < _ - i; omega), (LiveIs.cons rfl (LiveIs.cons rfl (LiveIs.cons rfl (LiveIs.cons rfl LiveIs.nil)))), Ent.refl _⟩
     ·
      have hie : i = (trimM w).length := by omega
      have hm9 := dec_lt9 h9 hm
      rw [hie, List.take_length] at hm
      refine T.exit ?_
      refine Post.seq_x ?_
      refine Post.seq_x ?_
      refine Post.block_hit ?_
      refine hK11 _ _ ?_
      refine T.seq fun K21 hK21 => ?_
      refine T.seq fun K22 hK22 => ?_
      refine T.region (l := [0]) rfl ?_
      refine RN.m rfl ?_
      refine RN.nil ?_
      refine hK22 _ _ ?_
      first | refine T.cond_dec rfl (fun h52 => ?_) (fun h52 => ?_) | refine T.cond rfl (fun h52 => ?_) (fun h52 => ?_)
      ·
       refine T.region (l := [0, 1, 2]) rfl ?_
       refine RN.m rfl ?_
       refine RN.p rfl (p_neg rfl rfl) ?_
       refine RN.a rfl ?_
       refine RN.nil ?_
       refine hK21 _ _ ?_
       refine T.seq fun K23 hK23 => ?_
       refine T.region (l := [0, 1, 2]) rfl ?_
       refine RN.m rfl ?_
       refine RN.a rfl ?_
       refine RN.a rfl ?_
       refine RN.nil ?_
       refine hK23 _ _ ?_
       refine T.ret ?_
       refine bodyQ_ret [] (RetRun.tmp (RetRun.tmp RetRun.nil)) ⟨-(m : Int), true, ?_, .inl ⟨rfl, by rw [numP_yes hgood hm, if_pos h52]⟩, rfl⟩ (Ent.refl _)
       rw [show IntKind.i64.wrap (0 - (m : Int)) = -(m : Int) from by rw [wrap64_in (by omega) (by omega)]; omega]
       rfl
      ·
       refine T.skip ?_
       refine hK21 _ _ ?_
       refine T.seq fun K24 hK24 => ?_
       refine T.region (l := [0, 1, 2]) rfl ?_
       refine RN.m rfl ?_
       refine RN.a rfl ?_
       refine RN.a rfl ?_
       refine RN.nil ?_
       refine hK24 _ _ ?_
       refine T.ret ?_
       refine bodyQ_ret [] (RetRun.tmp (RetRun.tmp RetRun.nil)) ⟨(m : Int), true, rfl, .inl ⟨rfl, by rw [numP_yes hgood hm, if_neg h52]⟩, rfl⟩ (Ent.refl _)
 ·
  have hw0 : w = [] := List.eq_nil_of_length_eq_zero (by omega)
  refine RN.no0 rfl ?_
  refine RN.no0 rfl ?_
  refine RN.no0 rfl ?_
  refine RN.pf rfl ?_
  refine RN.a rfl ?_
  refine RN.nil ?_
  refine hK2 _ _ ?_
  refine T.seq fun K25 hK25 => ?_
  refine T.region (l := [0, 1]) rfl ?_
  refine RN.m rfl ?_
  refine RN.a rfl ?_
  refine RN.nil ?_
  refine hK25 _ _ ?_
  refine T.cut (G := Unit) (fun ⟨⟩ => True) (fun ⟨⟩ => [(4, .bool (decide (w.head? = some 45))), (5, strV (trimM w))]) (fun ⟨⟩ => [Fr]) ?_ ?_
  ·
   refine T.seq fun K27 hK27 => ?_
   refine T.region (l := [0]) rfl ?_
   refine RN.m rfl ?_
   refine RN.nil ?_
   refine hK27 _ _ ?_
   refine T.cond_f rfl ?_
   refine T.skip ?_
   refine ⟨(), trivial, (LiveIs.cons (congrArg Value.bool (show false = decide (w.head? = some 45) by rw [hw0]; rfl)) (LiveIs.cons (congrArg strV (show w = trimM w by rw [hw0]; rfl)) LiveIs.nil)), Ent.refl _⟩
  ·
   rintro ⟨⟩ e26 -
   refine T.seq fun K28 hK28 => ?_
   refine T.seq fun K29 hK29 => ?_
   refine T.region (l := [0, 1, 2, 3, 4, 5, 6, 7]) rfl ?_
   refine RN.m rfl ?_
   refine RN.p rfl (p_len_s rfl Tryz.underlying9 rfl) ?_
   refine RN.p rfl (p_eql rfl rfl rfl) ?_
   refine RN.m rfl ?_
   first | refine RN.split_dec 23 rfl (fun h23 => ?_) (fun h23 => ?_) | refine RN.split 23 rfl (fun h23 => ?_) (fun h23 => ?_)
   ·
    refine RN.no0 rfl ?_
    refine RN.no0 rfl ?_
    refine RN.no0 rfl ?_
    refine RN.pt rfl ?_
    refine RN.nil ?_
    refine hK29 _ _ ?_
    refine T.cond_t rfl ?_
    refine T.seq fun K30 hK30 => ?_
    refine T.region (l := [0, 1]) rfl ?_
    refine RN.a rfl ?_
    refine RN.a rfl ?_
    refine RN.nil ?_
    refine hK30 _ _ ?_
    refine T.ret ?_
    refine Post.seq_r ?_
    refine bodyQ_ret [] (RetRun.tmp (RetRun.tmp RetRun.nil)) ⟨0, false, rfl, .inr ⟨rfl, by unfold numP; rw [if_pos (by first | exact .inl (List.eq_nil_of_length_eq_zero (by omega)) | exact .inr (by omega))]⟩, rfl⟩ (Ent.refl _)
   ·
    refine RN.m rfl ?_
    refine RN.p rfl (p_len_s rfl Tryz.underlying9 rfl) ?_
    refine RN.p rfl (p_gtr rfl rfl rfl) ?_
    refine RN.pf rfl ?_
    refine RN.nil ?_
    refine hK29 _ _ ?_
    first | refine T.cond_dec rfl (fun h27 => ?_) (fun h27 => ?_) | refine T.cond rfl (fun h27 => ?_) (fun h27 => ?_)
    ·
     refine T.seq fun K31 hK31 => ?_
     refine T.region (l := [0, 1]) rfl ?_
     refine RN.a rfl ?_
     refine RN.a rfl ?_
     refine RN.nil ?_
     refine hK31 _ _ ?_
     refine T.ret ?_
     refine Post.seq_r ?_
     refine bodyQ_ret [] (RetRun.tmp (RetRun.tmp RetRun.nil)) ⟨0, false, rfl, .inr ⟨rfl, by unfold numP; rw [if_pos (by first | exact .inl (List.eq_nil_of_length_eq_zero (by omega)) | exact .inr (by omega))]⟩, rfl⟩ (Ent.refl _)
    ·
     have hgood : ¬ (trimM w = [] ∨ 9 < (trimM w).length) := by
      rintro (g | g)
      · rw [g] at h23; simp at h23
      · omega
     have h9 : (trimM w).length ≤ 9 := by omega
     refine T.skip ?_
     refine hK28 _ _ ?_
     refine T.seq fun K32 hK32 => ?_
     refine T.region (l := [0]) rfl ?_
     refine RN.a rfl ?_
     refine RN.nil ?_
     refine hK32 _ _ ?_
     refine T.seq fun K33 hK33 => ?_
     refine T.seq fun K34 hK34 => ?_
     refine T.region (l := [0]) rfl ?_
     refine RN.a rfl ?_
     refine RN.nil ?_
     refine hK34 _ _ ?_
     refine T.block ?_
     refine T.loop (G := Nat × Nat) (fun ⟨i, m⟩ => i ≤ (trimM w).length ∧ Lib.decFrom 0 ((trimM w).take i) = some m) (fun ⟨i, m⟩ => [(4, .bool (decide (w.head? = some 45))), (5, strV (trimM w)), (6, intV m), (7, intV i)]) (fun ⟨i, m⟩ => [Fr]) (fun ⟨i, m⟩ => (trimM w).length - i) (0, 0) ⟨Nat.zero_le _, rfl⟩ (LiveIs.cons rfl (LiveIs.cons rfl (LiveIs.cons rfl (LiveIs.cons rfl LiveIs.nil)))) (Ent.refl _) ?_
     rintro ⟨i, m⟩ e35 ⟨hin, hm⟩
     dsimp only
     refine T.seq fun K36 hK36 => ?_
     refine T.seq fun K37 hK37 => ?_
     refine T.region (l := [0, 1, 2, 3]) rfl ?_
     refine RN.m rfl ?_
     refine RN.m rfl ?_
     refine RN.p rfl (p_len_s rfl Tryz.underlying9 rfl) ?_
     refine RN.p rfl (p_lss rfl rfl rfl) ?_
     refine RN.nil ?_
     refine hK37 _ _ ?_
     first | refine T.cond_dec rfl (fun h31 => ?_) (fun h31 => ?_) | refine T.cond rfl (fun h31 => ?_) (fun h31 => ?_)
     ·
      have hil : i < (trimM w).length := by omega
      have hm9 := dec_lt9 h9 hm
      have hcl := (trimM w)[i].toNat_lt
      refine T.skip ?_
      refine hK36 _ _ ?_
      refine T.seq fun K38 hK38 => ?_
      refine T.block ?_
      refine T.seq fun K39 hK39 => ?_
      refine T.seq fun K40 hK40 => ?_
      refine T.region (l := [0, 1, 2, 3, 4, 5, 6, 7, 8, 9]) rfl ?_
      refine RN.m rfl ?_
      refine RN.m rfl ?_
      refine RN.p rfl (by first | exact (p_indexN_s rfl Tryz.underlying9 rfl rfl (List.getElem?_eq_getElem hil)) | exact (p_index_s rfl Tryz.underlying9 rfl rfl (List.getElem?_eq_getElem hil))) ?_
      refine RN.p rfl (p_lss rfl rfl rfl) ?_
      refine RN.m rfl ?_
      first | refine RN.split_dec 38 rfl (fun h38 => ?_) (fun h38 => ?_) | refine RN.split 38 rfl (fun h38 => ?_) (fun h38 => ?_)
      ·
       refine RN.no0 rfl ?_
       refine RN.no0 rfl ?_
       refine RN.no0 rfl ?_
       refine RN.no0 rfl ?_
       refine RN.pt rfl ?_
       refine RN.nil ?_
       refine hK40 _ _ ?_
       refine T.cond_t rfl ?_
       refine T.seq fun K41 hK41 => ?_
       refine T.region (l := [0, 1]) rfl ?_
       refine RN.a rfl ?_
       refine RN.a rfl ?_
       refine RN.nil ?_
       refine hK41 _ _ ?_
       refine T.ret ?_
       refine Post.seq_r ?_
       refine Post.block_r ?_
       refine Post.seq_r ?_
       refine Post.seq_r ?_
       refine Post.block_r ?_
       refine Post.seq_r ?_
       refine bodyQ_ret [] (RetRun.tmp (RetRun.tmp RetRun.nil)) ⟨0, false, rfl, .inr ⟨rfl, by unfold numP; rw [if_neg hgood, dec_none hil (by omega)]; rfl⟩, rfl⟩ (Ent.refl _)
      ·
       refine RN.m rfl ?_
       refine RN.m rfl ?_
       refine RN.p rfl (by first | exact (p_indexN_s rfl Tryz.underlying9 rfl rfl (List.getElem?_eq_getElem hil)) | exact (p_index_s rfl Tryz.underlying9 rfl rfl (List.getElem?_eq_getElem hil))) ?_
       refine RN.p rfl (p_gtr rfl rfl rfl) ?_
       refine RN.pf rfl ?_
       refine RN.nil ?_
       refine hK40 _ _ ?_
       first | refine T.cond_dec rfl (fun h43 => ?_) (fun h43 => ?_) | refine T.cond rfl (fun h43 => ?_) (fun h43 => ?_)
       ·
        refine T.seq fun K42 hK42 => ?_
        refine T.region (l := [0, 1]) rfl ?_
        refine RN.a rfl ?_
        refine RN.a rfl ?_
        refine RN.nil ?_
        refine hK42 _ _ ?_
        refine T.ret ?_
        refine Post.seq_r ?_
        refine Post.block_r ?_
        refine Post.seq_r ?_
        refine Post.seq_r ?_
        refine Post.block_r ?_
        refine Post.seq_r ?_
        refine bodyQ_ret [] (RetRun.tmp (RetRun.tmp RetRun.nil)) ⟨0, false, rfl, .inr ⟨rfl, by unfold numP; rw [if_neg hgood, dec_none hil (by omega)]; rfl⟩, rfl⟩ (Ent.refl _)
       ·
        refine T.skip ?_
        refine hK39 _ _ ?_
        refine T.region (l := [0, 1, 2, 3, 4, 5, 6, 7, 8]) rfl ?_
        refine RN.m rfl ?_
        refine RN.p rfl (by first | exact (p_mulN (a := 10) rfl rfl rfl (by omega)) | exact (p_mul rfl rfl rfl (by omega))) ?_
        refine RN.m rfl ?_
        refine RN.m rfl ?_
        refine RN.p rfl (by first | exact (p_indexN_s rfl Tryz.underlying9 rfl rfl (List.getElem?_eq_getElem hil)) | exact (p_index_s rfl Tryz.underlying9 rfl rfl (List.getElem?_eq_getElem hil))) ?_
        refine RN.p rfl (p_subN8 (b := 48) rfl rfl rfl (by omega)) ?_
        refine RN.p rfl (p_conv_i64 rfl Tryz.underlying5 Tryz.underlying3 rfl (by omega)) ?_
        refine RN.p rfl (by first | exact (p_addN rfl rfl rfl (by omega)) | exact (p_add rfl rfl rfl (by omega))) ?_
        refine RN.a rfl ?_
        refine RN.nil ?_
        refine hK38 _ _ ?_
        refine T.region (l := [0, 1, 2]) rfl ?_
        refine RN.m rfl ?_
        refine RN.p rfl (by first | exact (p_addN (b := 1) rfl rfl rfl (by omega)) | exact (p_add rfl rfl rfl (by omega))) ?_
        refine RN.a rfl ?_
        refine RN.nil ?_
        refine ⟨(i + 1, 10 * m + ((trimM w)[i].toNat - 48)), ⟨hil, dec_next hil hm (by omega) (by omega)⟩, (by show _ - (i + 1) < _ - i; omega), (LiveIs.cons rfl (LiveIs.cons rfl (LiveIs.cons rfl (LiveIs.cons rfl LiveIs.nil)))), Ent.refl _⟩
     ·
      have hie : i = (trimM w).length := by omega
      have hm9 := dec_lt9 h9 hm
      rw [hie, List.take_length] at hm
      refine T.exit ?_
      refine Post.seq_x ?_
      refine Post.seq_x ?_
      refine Post.block_hit ?_
      refine hK33 _ _ ?_
      refine T.seq fun K43 hK43 => ?_
      refine T.seq fun K44 hK44 => ?_
      refine T.region (l := [0]) rfl ?_
      refine RN.m rfl ?_
      refine RN.nil ?_
      refine hK44 _ _ ?_
      first | refine T.cond_dec rfl (fun h52 => ?_) (fun h52 => ?_) | refine T.cond rfl (fun h52 => ?_) (fun h52 => ?_)
      ·
       refine T.region (l := [0, 1, 2]) rfl ?_
       refine RN.m rfl ?_
       refine RN.p rfl (p_neg rfl rfl) ?_
       refine RN.a rfl ?_
       refine RN.nil ?_
       refine hK43 _ _ ?_
       refine T.seq fun K45 hK45 => ?_
       refine T.region (l := [0, 1, 2]) rfl ?_
       refine RN.m rfl ?_
       refine RN.a rfl ?_
       refine RN.a rfl ?_
       refine RN.nil ?_
       refine hK45 _ _ ?_
       refine T.ret ?_
       refine bodyQ_ret [] (RetRun.tmp (RetRun.tmp RetRun.nil)) ⟨-(m : Int), true, ?_, .inl ⟨rfl, by rw [numP_yes hgood hm, if_pos h52]⟩, rfl⟩ (Ent.refl _)
       rw [show IntKind.i64.wrap (0 - (m : Int)) = -(m : Int) from by rw [wrap64_in (by omega) (by omega)]; omega]
       rfl
      ·
       refine T.skip ?_
       refine hK43 _ _ ?_
       refine T.seq fun K46 hK46 => ?_
       refine T.region (l := [0, 1, 2]) rfl ?_
       refine RN.m rfl ?_
       refine RN.a rfl ?_
       refine RN.a rfl ?_
       refine RN.nil ?_
       refine hK46 _ _ ?_
       refine T.ret ?_
       refine bodyQ_ret [] (RetRun.tmp (RetRun.tmp RetRun.nil)) ⟨(m : Int), true, rfl, .inl ⟨rfl, by rw [numP_yes hgood hm, if_neg h52]⟩, rfl⟩ (Ent.refl _)

theorem REmpty_spec (t : List UInt8) (ht : t.length ≤ 1000000000) (hnl : NoNl t) : Ctr Tryz.prog 28 [strV t] [] (fun w Ps => w = .bool (decide ((wordF t).1 = [])) ∧ Ps = []) := by
 refine Ctr.of_body Tryz.func28 rfl (by kernel_rfl) Tryz.ntmps28 rfl rfl (fun Fr => ?_)
 refine T.seq fun K1 hK1 => ?_
 refine T.region (l := [0]) rfl ?_
 refine RN.a rfl ?_
 refine RN.nil ?_
 refine hK1 _ _ ?_
 refine T.seq fun K2 hK2 => ?_
 refine T.region (l := [0, 1, 2, 3, 4, 5, 6]) rfl ?_
 refine RN.m rfl ?_
 refine RN.C [] rfl rfl rfl rfl (c_call rfl rfl) (RWord_f t (by omega)) rfl ?_
 rintro _ _ ⟨rfl, rfl⟩
 refine RN.m rfl ?_
 refine RN.p rfl (p_extract rfl rfl rfl) ?_
 refine RN.p rfl (p_extract rfl rfl rfl) ?_
 refine RN.a rfl ?_
 refine RN.a rfl ?_
 refine RN.nil ?_
 refine hK2 _ _ ?_
 refine T.seq fun K3 hK3 => ?_
 refine T.region (l := [0, 1, 2, 3, 4, 5, 6]) rfl ?_
 refine RN.m rfl ?_
 refine RN.p rfl (p_seql rfl rfl rfl) ?_
 refine RN.m rfl ?_
 first | refine RN.split_dec 12 rfl (fun h12 => ?_) (fun h12 => ?_) | refine RN.split 12 rfl (fun h12 => ?_) (fun h12 => ?_)
 ·
  refine RN.m rfl ?_
  refine RN.p rfl (p_seql rfl rfl rfl) ?_
  refine RN.pt rfl ?_
  refine RN.a rfl ?_
  refine RN.nil ?_
  refine hK3 _ _ ?_
  refine T.ret ?_
  refine bodyQ_ret [] (RetRun.tmp RetRun.nil) ⟨congrArg Value.bool (decide_eq_decide.2 ⟨fun _ => h12, fun _ => rest_nil hnl h12⟩), rfl⟩ (Ent.refl _)
 ·
  refine RN.no0 rfl ?_
  refine RN.no0 rfl ?_
  refine RN.pf rfl ?_
  refine RN.a rfl ?_
  refine RN.nil ?_
  refine hK3 _ _ ?_
  refine T.ret ?_
  refine bodyQ_ret [] (RetRun.tmp RetRun.nil) ⟨congrArg Value.bool (decide_eq_false h12).symm, rfl⟩ (Ent.refl _)

theorem Skip_spec (t : List UInt8) (ht : t.length ≤ 1000000000) : Ctr Tryz.prog 16 [strV t] [] (fun w Ps => w = .bool (decide (SkipQ t)) ∧ Ps = []) := by
 refine Ctr.of_body Tryz.func16 rfl (by kernel_rfl) Tryz.ntmps16 rfl rfl (fun Fr => ?_)
 refine T.seq fun K1 hK1 => ?_
 refine T.region (l := [0]) rfl ?_
 refine RN.a rfl ?_
 refine RN.nil ?_
 refine hK1 _ _ ?_
 refine T.seq fun K2 hK2 => ?_
 refine T.region (l := [0, 1, 2, 3, 4, 5, 6]) rfl ?_
 refine RN.m rfl ?_
 refine RN.C [] rfl rfl rfl rfl (c_call rfl rfl) (RWord_f t (by omega)) rfl ?_
 rintro _ _ ⟨rfl, rfl⟩
 refine RN.m rfl ?_
 refine RN.p rfl (p_extract rfl rfl rfl) ?_
 refine RN.p rfl (p_extract rfl rfl rfl) ?_
 refine RN.a rfl ?_
 refine RN.a rfl ?_
 refine RN.nil ?_
 refine hK2 _ _ ?_
 refine T.seq fun K3 hK3 => ?_
 refine T.region (l := [0, 1, 2, 3, 4, 5, 6, 7]) rfl ?_
 refine RN.m rfl ?_
 refine RN.p rfl (p_seql rfl rfl rfl) ?_
 refine RN.m rfl ?_
 first | refine RN.split_dec 12 rfl (fun h12 => ?_) (fun h12 => ?_) | refine RN.split 12 rfl (fun h12 => ?_) (fun h12 => ?_)
 ·
  refine RN.no0 rfl ?_
  refine RN.no0 rfl ?_
  refine RN.no0 rfl ?_
  refine RN.pt rfl ?_
  refine RN.a rfl ?_
  refine RN.nil ?_
  refine hK3 _ _ ?_
  refine T.ret ?_
  refine bodyQ_ret [] (RetRun.tmp RetRun.nil) ⟨congrArg Value.bool (decide_eq_true (.inl h12)).symm, rfl⟩ (Ent.refl _)
 ·
  have hwp : 0 < (wordF t).1.length := List.length_pos_iff.2 h12
  refine RN.m rfl ?_
  refine RN.p rfl (by first | exact (p_indexN_s (n := 0) rfl Tryz.underlying9 rfl rfl (List.getElem?_eq_getElem hwp)) | exact (p_index_s rfl Tryz.underlying9 rfl rfl (List.getElem?_eq_getElem hwp))) ?_
  refine RN.p rfl (p_eql rfl rfl rfl) ?_
  refine RN.pf rfl ?_
  refine RN.a rfl ?_
  refine RN.nil ?_
  refine hK3 _ _ ?_
  refine T.ret ?_
  refine bodyQ_ret [] (RetRun.tmp RetRun.nil) ⟨congrArg Value.bool (decide_eq_decide.2 ⟨fun g => .inr (by rw [at0_get hwp]; omega), fun g => g.elim (fun g => absurd g h12) (fun g => by rw [at0_get hwp] at g; omega)⟩), rfl⟩ (Ent.refl _)

end Go.Proofs.YtokbjejbgbdkoaaGreatDoor
