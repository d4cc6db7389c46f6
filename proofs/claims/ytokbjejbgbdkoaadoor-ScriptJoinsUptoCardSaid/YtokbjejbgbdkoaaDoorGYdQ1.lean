/-
 Texts told: walked.
-/
import Derived.Test.YtokbjejbgbdkoaaDoorGYdTy
import Derived.Test.YtokbjejbgbdkoaaDoorGYdSh
import Derived.Test.YtokbjejbgbdkoaaDoorGSl20
set_option linter.unusedVariables false
set_option linter.unusedSimpArgs false
namespace Go.Proofs.YtokbjejbgbdkoaaDoor
open Go Go.Sl Go.Proofs
set_option maxRecDepth 20000
open Go.Mo Go.Proofs Go.Shelf Go.RowKit
theorem Dec_spec (A : Assn) (hA : Glob 1 2 A) (l : List UInt8) (hl : l ≠ []) : Ctr Tryd.prog 40 [strV l] [A] (fun w Ps => w = .tuple #[.int .i32 ((dec l 0).1 : Int), intV (dec l 0).2] ∧ Ps = [A]) :=
 Ctr.ofBelow ⟨_, Tryd.func40, by kernel_rfl, by kernel_rfl⟩ fun W0 Fr w hs => by
  have h := Any.utf8_DecodeRuneInString lays197 ⟨l.toArray⟩ w (hA.utf8 W0 [Fr] w hs)
  have e : Lib.decodeGo ⟨l.toArray⟩ = dec l 0 := by
   unfold Lib.decodeGo
   rw [if_neg (show ¬ (ByteArray.mk l.toArray).size = 0 from by show ¬ l.toArray.size = 0; simpa using hl)]
   rfl
  rw [e] at h
  exact h
theorem Num_spec (v n : Nat) (hv : v < 2147483648) (hn : n ≤ 8) : Ctr Tryd.prog 45 [.int .i32 (v : Int), intV n] [] (fun w Ps => w = strV (hexN v n) ∧ Ps = []) := by
 refine Ctr.of_body Tryd.func45 rfl (by kernel_rfl) Tryd.ntmps45 rfl rfl (fun Fr => ?_)
 have hdiv : ∀ i, v / 16 ^ i < 2147483648 := fun i => Nat.lt_of_le_of_lt (Nat.div_le_self _ _) hv
 refine T.seq fun K1 hK1 => ?_
 refine T.region (l := [0]) rfl ?_
 refine RN.a rfl ?_
 refine RN.nil ?_
 refine hK1 _ _ ?_
 refine T.seq fun K2 hK2 => ?_
 refine T.region (l := [0]) rfl ?_
 refine RN.a rfl ?_
 refine RN.nil ?_
 refine hK2 _ _ ?_
 refine T.seq fun K3 hK3 => ?_
 refine T.seq fun K4 hK4 => ?_
 refine T.region (l := [0, 1]) rfl ?_
 refine RN.m rfl ?_
 refine RN.m rfl ?_
 refine RN.nil ?_
 refine hK4 _ _ ?_
 refine T.block ?_
 refine T.loop (G := Nat) (fun i => i ≤ n) (fun i => [(0, .int .i32 ((v / 16 ^ i : Nat) : Int)), (5, strV (hexN v i)), (6, intV n), (7, intV i)]) (fun i => [Fr]) (fun i => n - i) 0 (Nat.zero_le _) (LiveIs.cons (show Value.int .i32 (v : Int) = Value.int .i32 ((v / 16 ^ 0 : Nat) : Int) from by rw [Nat.pow_zero, Nat.div_one]) (LiveIs.cons rfl (LiveIs.cons rfl (LiveIs.cons rfl LiveIs.nil)))) (Ent.refl _) ?_
 rintro i e5 hin
 refine T.seq fun K6 hK6 => ?_
 refine T.region (l := [0]) rfl ?_
 refine RN.p rfl (p_lss rfl rfl rfl) ?_
 refine RN.nil ?_
 refine hK6 _ _ ?_
 refine T.seq fun K7 hK7 => ?_
 first | refine T.cond_dec rfl (fun h8 => ?_) (fun h8 => ?_) | refine T.cond rfl (fun h8 => ?_) (fun h8 => ?_)
 ·
  have hlt : i < n := by omega
  refine T.skip ?_
  refine hK7 _ _ ?_
  refine T.seq fun K8 hK8 => ?_
  refine T.block ?_
  refine T.seq fun K9 hK9 => ?_
  refine T.region (l := [0, 1, 2, 3, 4, 5, 6, 7, 8]) rfl ?_
  refine RN.m rfl ?_
  refine RN.p rfl (p_and15 (hdiv _) rfl rfl rfl) ?_
  refine RN.m rfl ?_
  refine RN.p rfl (p_and15 (hdiv _) rfl rfl rfl) ?_
  refine RN.p rfl (p_addN32 (b := 1) rfl rfl rfl (by omega)) ?_
  refine RN.p rfl (p_sliceN_s (l := v / 16 ^ i % 16) (h := v / 16 ^ i % 16 + 1) rfl Tryd.underlying9 rfl rfl rfl (by have := Nat.mod_lt (v / 16 ^ i) (show 16 > 0 by omega); exact ⟨by omega, by show _ ≤ 16; omega⟩)) ?_
  refine RN.m rfl ?_
  refine RN.p rfl (p_sadd rfl rfl rfl (by rw [hexN_length]; show (hexD _).length + _ ≤ _; rw [hexD_length (Nat.mod_lt _ (by omega))]; omega)) ?_
  refine RN.a rfl ?_
  refine RN.nil ?_
  refine hK9 _ _ ?_
  refine T.region (l := [0, 1, 2]) rfl ?_
  refine RN.m rfl ?_
  refine RN.p rfl (p_shr4 rfl rfl rfl) ?_
  refine RN.a rfl ?_
  refine RN.nil ?_
  refine hK8 _ _ ?_
  refine T.region (l := [0, 1]) rfl ?_
  refine RN.p rfl (by first | exact (p_addN (b := 1) rfl rfl rfl (by omega)) | exact (p_add rfl rfl rfl (by omega))) ?_
  refine RN.m rfl ?_
  refine RN.nil ?_
  refine ⟨i + 1, hlt, (by show _ - (i + 1) < _ - i; omega), (LiveIs.cons (show Value.int .i32 ((v / 16 ^ i / 16 : Nat) : Int) = Value.int .i32 ((v / 16 ^ (i + 1) : Nat) : Int) from by rw [Nat.pow_succ, ← Nat.div_div_eq_div_mul]) (LiveIs.cons (congrArg strV (hexN_front i v).symm) (LiveIs.cons rfl (LiveIs.cons rfl LiveIs.nil)))), Ent.refl _⟩
 ·
  have ein : i = n := by omega
  subst ein
  refine T.exit ?_
  refine Post.seq_x ?_
  refine Post.seq_x ?_
  refine Post.block_hit ?_
  refine hK3 _ _ ?_
  refine T.seq fun K10 hK10 => ?_
  refine T.region (l := [0, 1]) rfl ?_
  refine RN.m rfl ?_
  refine RN.a rfl ?_
  refine RN.nil ?_
  refine hK10 _ _ ?_
  refine T.ret ?_
  refine bodyQ_ret [] (RetRun.tmp RetRun.nil) ⟨rfl, rfl⟩ (Ent.refl _)

theorem told1 {r : Nat} (h : r = 34 ∨ r = 92) : [92] ++ enc r = toldR r := by unfold toldR; rw [if_pos h]; rfl
theorem told2 {r : Nat} (h : r = 10) : [92, 110] = toldR r := by unfold toldR; rw [if_neg (by omega), if_pos h]
theorem told3 {r : Nat} (h : r = 9) : [92, 116] = toldR r := by unfold toldR; rw [if_neg (by omega), if_neg (by omega), if_pos h]
theorem told4 {r : Nat} (h : r = 0) : [92, 48] = toldR r := by unfold toldR; rw [if_neg (by omega), if_neg (by omega), if_neg (by omega), if_pos h]
theorem told5 {r : Nat} (h : (r < 32 ∨ r = 127) ∧ r ≠ 10 ∧ r ≠ 9 ∧ r ≠ 0) : [92, 120] ++ hexN r 2 = toldR r := by unfold toldR; rw [if_neg (by omega), if_neg (by omega), if_neg (by omega), if_neg (by omega), if_pos (by omega)]
theorem told6 {r : Nat} (h : (128 ≤ r ∧ r ≤ 159) ∨ r = 8232 ∨ r = 8233 ∨ r = 65279) : [92, 117] ++ hexN r 4 = toldR r := by unfold toldR; rw [if_neg (by omega), if_neg (by omega), if_neg (by omega), if_neg (by omega), if_neg (by omega), if_pos h]
theorem told7 {r : Nat} (h : ¬ (r = 34 ∨ r = 92) ∧ ¬ (r < 32 ∨ r = 127) ∧ ¬ ((128 ≤ r ∧ r ≤ 159) ∨ r = 8232 ∨ r = 8233 ∨ r = 65279)) : enc r = toldR r := by unfold toldR; rw [if_neg (by omega), if_neg (by omega), if_neg (by omega), if_neg (by omega), if_neg (by omega), if_neg (by omega)]
theorem Told_spec (r : Nat) (hr : r < 1114112) : Ctr Tryd.prog 46 [.int .i32 (r : Int)] [] (fun w Ps => w = strV (toldR r) ∧ Ps = []) := by
 refine Ctr.of_body Tryd.func46 rfl (by kernel_rfl) Tryd.ntmps46 rfl rfl (fun Fr => ?_)
 refine T.seq fun K1 hK1 => ?_
 refine T.region (l := [0]) rfl ?_
 refine RN.a rfl ?_
 refine RN.nil ?_
 refine hK1 _ _ ?_
 refine T.seq fun K2 hK2 => ?_
 refine T.block ?_
 refine T.seq fun K3 hK3 => ?_
 refine T.region (l := [0, 1, 2, 3, 4, 5, 6]) rfl ?_
 refine RN.m rfl ?_
 refine RN.p rfl (p_eql rfl rfl rfl) ?_
 refine RN.m rfl ?_
 first | refine RN.split_dec 6 rfl (fun h6 => ?_) (fun h6 => ?_) | refine RN.split 6 rfl (fun h6 => ?_) (fun h6 => ?_)
 ·
  refine RN.no0 rfl ?_
  refine RN.no0 rfl ?_
  refine RN.pt rfl ?_
  refine RN.a rfl ?_
  refine RN.nil ?_
  refine hK3 _ _ ?_
  refine T.cond_t rfl ?_
  refine T.seq fun K4 hK4 => ?_
  refine T.region (l := [0, 1, 2, 3]) rfl ?_
  refine RN.m rfl ?_
  refine RN.p rfl (p_runeStr rfl Tryd.underlying21 Tryd.underlying9 rfl) ?_
  refine RN.p rfl (p_sadd rfl rfl rfl (by have := enc_len1 (r := r); simp only [List.length_cons, List.length_nil]; omega)) ?_
  refine RN.a rfl ?_
  refine RN.nil ?_
  refine hK4 _ _ ?_
  refine T.ret ?_
  refine Post.block_r ?_
  refine Post.seq_r ?_
  refine bodyQ_ret [] (RetRun.tmp RetRun.nil) ⟨congrArg strV (told1 (by omega)), rfl⟩ (Ent.refl _)
 ·
  refine RN.m rfl ?_
  refine RN.p rfl (p_eql rfl rfl rfl) ?_
  refine RN.pf rfl ?_
  refine RN.a rfl ?_
  refine RN.nil ?_
  refine hK3 _ _ ?_
  first | refine T.cond_dec rfl (fun h3 => ?_) (fun h3 => ?_) | refine T.cond rfl (fun h3 => ?_) (fun h3 => ?_)
  ·
   first | refine T.known 3 rfl (congrArg Value.bool (decide_eq_true h3)) ?_ | refine T.known 3 rfl (congrArg Value.bool h3) ?_
   refine T.seq fun K5 hK5 => ?_
   refine T.region (l := [0, 1, 2, 3]) rfl ?_
   refine RN.m rfl ?_
   refine RN.p rfl (p_runeStr rfl Tryd.underlying21 Tryd.underlying9 rfl) ?_
   refine RN.p rfl (p_sadd rfl rfl rfl (by have := enc_len1 (r := r); simp only [List.length_cons, List.length_nil]; omega)) ?_
   refine RN.a rfl ?_
   refine RN.nil ?_
   refine hK5 _ _ ?_
   refine T.ret ?_
   refine Post.block_r ?_
   refine Post.seq_r ?_
   refine bodyQ_ret [] (RetRun.tmp RetRun.nil) ⟨congrArg strV (told1 (by omega)), rfl⟩ (Ent.refl _)
  ·
   first | refine T.known 3 rfl (congrArg Value.bool (decide_eq_false h3)) ?_ | refine T.known 3 rfl (congrArg Value.bool h3) ?_
   refine T.seq fun K6 hK6 => ?_
   refine T.region (l := [0, 1, 2]) rfl ?_
   refine RN.m rfl ?_
   refine RN.p rfl (p_eql rfl rfl rfl) ?_
   refine RN.a rfl ?_
   refine RN.nil ?_
   refine hK6 _ _ ?_
   first | refine T.cond_dec rfl (fun h13 => ?_) (fun h13 => ?_) | refine T.cond rfl (fun h13 => ?_) (fun h13 => ?_)
   ·
    refine T.seq fun K7 hK7 => ?_
    refine T.region (l := [0]) rfl ?_
    refine RN.a rfl ?_
    refine RN.nil ?_
    refine hK7 _ _ ?_
    refine T.ret ?_
    refine Post.block_r ?_
    refine Post.seq_r ?_
    refine bodyQ_ret [] (RetRun.tmp RetRun.nil) ⟨congrArg strV (told2 (by omega)), rfl⟩ (Ent.refl _)
   ·
    refine T.seq fun K8 hK8 => ?_
    refine T.region (l := [0, 1, 2]) rfl ?_
    refine RN.m rfl ?_
    refine RN.p rfl (p_eql rfl rfl rfl) ?_
    refine RN.a rfl ?_
    refine RN.nil ?_
    refine hK8 _ _ ?_
    first | refine T.cond_dec rfl (fun h16 => ?_) (fun h16 => ?_) | refine T.cond rfl (fun h16 => ?_) (fun h16 => ?_)
    ·
     refine T.seq fun K9 hK9 => ?_
     refine T.region (l := [0]) rfl ?_
     refine RN.a rfl ?_
     refine RN.nil ?_
     refine hK9 _ _ ?_
     refine T.ret ?_
     refine Post.block_r ?_
     refine Post.seq_r ?_
     refine bodyQ_ret [] (RetRun.tmp RetRun.nil) ⟨congrArg strV (told3 (by omega)), rfl⟩ (Ent.refl _)
    ·
     refine T.seq fun K10 hK10 => ?_
     refine T.region (l := [0, 1, 2]) rfl ?_
     refine RN.m rfl ?_
     refine RN.p rfl (p_eql rfl rfl rfl) ?_
     refine RN.a rfl ?_
     refine RN.nil ?_
     refine hK10 _ _ ?_
     first | refine T.cond_dec rfl (fun h19 => ?_) (fun h19 => ?_) | refine T.cond rfl (fun h19 => ?_) (fun h19 => ?_)
     ·
      refine T.seq fun K11 hK11 => ?_
      refine T.region (l := [0]) rfl ?_
      refine RN.a rfl ?_
      refine RN.nil ?_
      refine hK11 _ _ ?_
      refine T.ret ?_
      refine Post.block_r ?_
      refine Post.seq_r ?_
      refine bodyQ_ret [] (RetRun.tmp RetRun.nil) ⟨congrArg strV (told4 (by omega)), rfl⟩ (Ent.refl _)
     ·
      refine T.seq fun K12 hK12 => ?_
      refine T.region (l := [0, 1, 2, 3, 4, 5, 6]) rfl ?_
      refine RN.m rfl ?_
      refine RN.p rfl (p_lss rfl rfl rfl) ?_
      refine RN.m rfl ?_
      first | refine RN.split_dec 25 rfl (fun h25 => ?_) (fun h25 => ?_) | refine RN.split 25 rfl (fun h25 => ?_) (fun h25 => ?_)
      ·
       refine RN.no0 rfl ?_
       refine RN.no0 rfl ?_
       refine RN.pt rfl ?_
       refine RN.a rfl ?_
       refine RN.nil ?_
       refine hK12 _ _ ?_
       refine T.cond_t rfl ?_
       refine T.seq fun K13 hK13 => ?_
       refine T.region (l := [0, 1, 2, 3]) rfl ?_
       refine RN.m rfl ?_
       refine RN.C [] rfl rfl rfl rfl (c_call rfl rfl) (Num_spec r 2 (by omega) (by omega)) rfl ?_
       rintro _ _ ⟨rfl, rfl⟩
       refine RN.p rfl (p_sadd rfl rfl rfl (by rw [hexN_length]; decide)) ?_
       refine RN.a rfl ?_
       refine RN.nil ?_
       refine hK13 _ _ ?_
       refine T.ret ?_
       refine Post.block_r ?_
       refine Post.seq_r ?_
       refine bodyQ_ret [] (RetRun.tmp RetRun.nil) ⟨congrArg strV (told5 (by omega)), rfl⟩ (Ent.refl _)
      ·
       refine RN.m rfl ?_
       refine RN.p rfl (p_eql rfl rfl rfl) ?_
       refine RN.pf rfl ?_
       refine RN.a rfl ?_
       refine RN.nil ?_
       refine hK12 _ _ ?_
       first | refine T.cond_dec rfl (fun h22 => ?_) (fun h22 => ?_) | refine T.cond rfl (fun h22 => ?_) (fun h22 => ?_)
       ·
        refine T.seq fun K14 hK14 => ?_
        refine T.region (l := [0, 1, 2, 3]) rfl ?_
        refine RN.m rfl ?_
        refine RN.C [] rfl rfl rfl rfl (c_call rfl rfl) (Num_spec r 2 (by omega) (by omega)) rfl ?_
        rintro _ _ ⟨rfl, rfl⟩
        refine RN.p rfl (p_sadd rfl rfl rfl (by rw [hexN_length]; decide)) ?_
        refine RN.a rfl ?_
        refine RN.nil ?_
        refine hK14 _ _ ?_
        refine T.ret ?_
        refine Post.block_r ?_
        refine Post.seq_r ?_
        refine bodyQ_ret [] (RetRun.tmp RetRun.nil) ⟨congrArg strV (told5 (by omega)), rfl⟩ (Ent.refl _)
       ·
        refine T.seq fun K15 hK15 => ?_
        refine T.seq fun K16 hK16 => ?_
        refine T.region (l := [0, 1, 2, 3, 4, 5, 6]) rfl ?_
        refine RN.m rfl ?_
        refine RN.p rfl (p_geq rfl rfl rfl) ?_
        refine RN.m rfl ?_
        first | refine RN.split_dec 35 rfl (fun h35 => ?_) (fun h35 => ?_) | refine RN.split 35 rfl (fun h35 => ?_) (fun h35 => ?_)
        ·
         refine RN.m rfl ?_
         refine RN.p rfl (p_leq rfl rfl rfl) ?_
         refine RN.pt rfl ?_
         refine RN.a rfl ?_
         refine RN.nil ?_
         refine hK16 _ _ ?_
         first | refine T.cond_dec rfl (fun h32 => ?_) (fun h32 => ?_) | refine T.cond rfl (fun h32 => ?_) (fun h32 => ?_)
         ·
          first | refine T.known 32 rfl (congrArg Value.bool (decide_eq_true h32)) ?_ | refine T.known 32 rfl (congrArg Value.bool h32) ?_
          refine T.skip ?_
          refine hK15 _ _ ?_
          refine T.cond_t rfl ?_
          refine T.seq fun K17 hK17 => ?_
          refine T.region (l := [0, 1, 2, 3]) rfl ?_
          refine RN.m rfl ?_
          refine RN.C [] rfl rfl rfl rfl (c_call rfl rfl) (Num_spec r 4 (by omega) (by omega)) rfl ?_
          rintro _ _ ⟨rfl, rfl⟩
          refine RN.p rfl (p_sadd rfl rfl rfl (by rw [hexN_length]; decide)) ?_
          refine RN.a rfl ?_
          refine RN.nil ?_
          refine hK17 _ _ ?_
          refine T.ret ?_
          refine Post.block_r ?_
          refine Post.seq_r ?_
          refine bodyQ_ret [] (RetRun.tmp RetRun.nil) ⟨congrArg strV (told6 (by omega)), rfl⟩ (Ent.refl _)
         ·
          first | refine T.known 32 rfl (congrArg Value.bool (decide_eq_false h32)) ?_ | refine T.known 32 rfl (congrArg Value.bool h32) ?_
          refine T.seq fun K18 hK18 => ?_
          refine T.region (l := [0, 1, 2]) rfl ?_
          refine RN.m rfl ?_
          refine RN.p rfl (p_eql rfl rfl rfl) ?_
          refine RN.a rfl ?_
          refine RN.nil ?_
          refine hK18 _ _ ?_
          first | refine T.cond_dec rfl (fun h32 => ?_) (fun h32 => ?_) | refine T.cond rfl (fun h32 => ?_) (fun h32 => ?_)
          ·
           first | refine T.known 32 rfl (congrArg Value.bool (decide_eq_true h32)) ?_ | refine T.known 32 rfl (congrArg Value.bool h32) ?_
           refine T.skip ?_
           refine hK15 _ _ ?_
           refine T.cond_t rfl ?_
           refine T.seq fun K19 hK19 => ?_
           refine T.region (l := [0, 1, 2, 3]) rfl ?_
           refine RN.m rfl ?_
           refine RN.C [] rfl rfl rfl rfl (c_call rfl rfl) (Num_spec r 4 (by omega) (by omega)) rfl ?_
           rintro _ _ ⟨rfl, rfl⟩
           refine RN.p rfl (p_sadd rfl rfl rfl (by rw [hexN_length]; decide)) ?_
           refine RN.a rfl ?_
           refine RN.nil ?_
           refine hK19 _ _ ?_
           refine T.ret ?_
           refine Post.block_r ?_
           refine Post.seq_r ?_
           refine bodyQ_ret [] (RetRun.tmp RetRun.nil) ⟨congrArg strV (told6 (by omega)), rfl⟩ (Ent.refl _)
          ·
           first | refine T.known 32 rfl (congrArg Value.bool (decide_eq_false h32)) ?_ | refine T.known 32 rfl (congrArg Value.bool h32) ?_
           refine T.seq fun K20 hK20 => ?_
           refine T.region (l := [0, 1, 2]) rfl ?_
           refine RN.m rfl ?_
           refine RN.p rfl (p_eql rfl rfl rfl) ?_
           refine RN.a rfl ?_
           refine RN.nil ?_
           refine hK20 _ _ ?_
           first | refine T.cond_dec rfl (fun h32 => ?_) (fun h32 => ?_) | refine T.cond rfl (fun h32 => ?_) (fun h32 => ?_)
           ·
            first | refine T.known 32 rfl (congrArg Value.bool (decide_eq_true h32)) ?_ | refine T.known 32 rfl (congrArg Value.bool h32) ?_
            refine T.skip ?_
            refine hK15 _ _ ?_
            refine T.cond_t rfl ?_
            refine T.seq fun K21 hK21 => ?_
            refine T.region (l := [0, 1, 2, 3]) rfl ?_
            refine RN.m rfl ?_
            refine RN.C [] rfl rfl rfl rfl (c_call rfl rfl) (Num_spec r 4 (by omega) (by omega)) rfl ?_
            rintro _ _ ⟨rfl, rfl⟩
            refine RN.p rfl (p_sadd rfl rfl rfl (by rw [hexN_length]; decide)) ?_
            refine RN.a rfl ?_
            refine RN.nil ?_
            refine hK21 _ _ ?_
            refine T.ret ?_
            refine Post.block_r ?_
            refine Post.seq_r ?_
            refine bodyQ_ret [] (RetRun.tmp RetRun.nil) ⟨congrArg strV (told6 (by omega)), rfl⟩ (Ent.refl _)
           ·
            first | refine T.known 32 rfl (congrArg Value.bool (decide_eq_false h32)) ?_ | refine T.known 32 rfl (congrArg Value.bool h32) ?_
            refine T.region (l := [0, 1, 2]) rfl ?_
            refine RN.m rfl ?_
            refine RN.p rfl (p_eql rfl rfl rfl) ?_
            refine RN.a rfl ?_
            refine RN.nil ?_
            refine hK15 _ _ ?_
            first | refine T.cond_dec rfl (fun h32 => ?_) (fun h32 => ?_) | refine T.cond rfl (fun h32 => ?_) (fun h32 => ?_)
            ·
             first | refine T.known 32 rfl (congrArg Value.bool (decide_eq_true h32)) ?_ | refine T.known 32 rfl (congrArg Value.bool h32) ?_
             refine T.seq fun K22 hK22 => ?_
             refine T.region (l := [0, 1, 2, 3]) rfl ?_
             refine RN.m rfl ?_
             refine RN.C [] rfl rfl rfl rfl (c_call rfl rfl) (Num_spec r 4 (by omega) (by omega)) rfl ?_
             rintro _ _ ⟨rfl, rfl⟩
             refine RN.p rfl (p_sadd rfl rfl rfl (by rw [hexN_length]; decide)) ?_
             refine RN.a rfl ?_
             refine RN.nil ?_
             refine hK22 _ _ ?_
             refine T.ret ?_
             refine Post.block_r ?_
             refine Post.seq_r ?_
             refine bodyQ_ret [] (RetRun.tmp RetRun.nil) ⟨congrArg strV (told6 (by omega)), rfl⟩ (Ent.refl _)
            ·
             first | refine T.known 32 rfl (congrArg Value.bool (decide_eq_false h32)) ?_ | refine T.known 32 rfl (congrArg Value.bool h32) ?_
             refine T.skip ?_
             refine hK2 _ _ ?_
             refine T.seq fun K23 hK23 => ?_
             refine T.region (l := [0, 1, 2]) rfl ?_
             refine RN.m rfl ?_
             refine RN.p rfl (p_runeStr rfl Tryd.underlying21 Tryd.underlying9 rfl) ?_
             refine RN.a rfl ?_
             refine RN.nil ?_
             refine hK23 _ _ ?_
             refine T.ret ?_
             refine bodyQ_ret [] (RetRun.tmp RetRun.nil) ⟨congrArg strV (told7 (by omega)), rfl⟩ (Ent.refl _)
        ·
         refine RN.no0 rfl ?_
         refine RN.no0 rfl ?_
         refine RN.pf rfl ?_
         refine RN.a rfl ?_
         refine RN.nil ?_
         refine hK16 _ _ ?_
         refine T.cond_f rfl ?_
         refine T.seq fun K24 hK24 => ?_
         refine T.region (l := [0, 1, 2]) rfl ?_
         refine RN.m rfl ?_
         refine RN.p rfl (p_eql rfl rfl rfl) ?_
         refine RN.a rfl ?_
         refine RN.nil ?_
         refine hK24 _ _ ?_
         first | refine T.cond_dec rfl (fun h32 => ?_) (fun h32 => ?_) | refine T.cond rfl (fun h32 => ?_) (fun h32 => ?_)
         ·
          first | refine T.known 32 rfl (congrArg Value.bool (decide_eq_true h32)) ?_ | refine T.known 32 rfl (congrArg Value.bool h32) ?_
          refine T.skip ?_
          refine hK15 _ _ ?_
          refine T.cond_t rfl ?_
          refine T.seq fun K25 hK25 => ?_
          refine T.region (l := [0, 1, 2, 3]) rfl ?_
          refine RN.m rfl ?_
          refine RN.C [] rfl rfl rfl rfl (c_call rfl rfl) (Num_spec r 4 (by omega) (by omega)) rfl ?_
          rintro _ _ ⟨rfl, rfl⟩
          refine RN.p rfl (p_sadd rfl rfl rfl (by rw [hexN_length]; decide)) ?_
          refine RN.a rfl ?_
          refine RN.nil ?_
          refine hK25 _ _ ?_
          refine T.ret ?_
          refine Post.block_r ?_
          refine Post.seq_r ?_
          refine bodyQ_ret [] (RetRun.tmp RetRun.nil) ⟨congrArg strV (told6 (by omega)), rfl⟩ (Ent.refl _)
         ·
          first | refine T.known 32 rfl (congrArg Value.bool (decide_eq_false h32)) ?_ | refine T.known 32 rfl (congrArg Value.bool h32) ?_
          refine T.seq fun K26 hK26 => ?_
          refine T.region (l := [0, 1, 2]) rfl ?_
          refine RN.m rfl ?_
          refine RN.p rfl (p_eql rfl rfl rfl) ?_
          refine RN.a rfl ?_
          refine RN.nil ?_
          refine hK26 _ _ ?_
          first | refine T.cond_dec rfl (fun h32 => ?_) (fun h32 => ?_) | refine T.cond rfl (fun h32 => ?_) (fun h32 => ?_)
          ·
           first | refine T.known 32 rfl (congrArg Value.bool (decide_eq_true h32)) ?_ | refine T.known 32 rfl (congrArg Value.bool h32) ?_
           refine T.skip ?_
           refine hK15 _ _ ?_
           refine T.cond_t rfl ?_
           refine T.seq fun K27 hK27 => ?_
           refine T.region (l := [0, 1, 2, 3]) rfl ?_
           refine RN.m rfl ?_
           refine RN.C [] rfl rfl rfl rfl (c_call rfl rfl) (Num_spec r 4 (by omega) (by omega)) rfl ?_
           rintro _ _ ⟨rfl, rfl⟩
           refine RN.p rfl (p_sadd rfl rfl rfl (by rw [hexN_length]; decide)) ?_
           refine RN.a rfl ?_
           refine RN.nil ?_
           refine hK27 _ _ ?_
           refine T.ret ?_
           refine Post.block_r ?_
           refine Post.seq_r ?_
           refine bodyQ_ret [] (RetRun.tmp RetRun.nil) ⟨congrArg strV (told6 (by omega)), rfl⟩ (Ent.refl _)
          ·
           first | refine T.known 32 rfl (congrArg Value.bool (decide_eq_false h32)) ?_ | refine T.known 32 rfl (congrArg Value.bool h32) ?_
           refine T.region (l := [0, 1, 2]) rfl ?_
           refine RN.m rfl ?_
           refine RN.p rfl (p_eql rfl rfl rfl) ?_
           refine RN.a rfl ?_
           refine RN.nil ?_
           refine hK15 _ _ ?_
           first | refine T.cond_dec rfl (fun h32 => ?_) (fun h32 => ?_) | refine T.cond rfl (fun h32 => ?_) (fun h32 => ?_)
           ·
            first | refine T.known 32 rfl (congrArg Value.bool (decide_eq_true h32)) ?_ | refine T.known 32 rfl (congrArg Value.bool h32) ?_
            refine T.seq fun K28 hK28 => ?_
            refine T.region (l := [0, 1, 2, 3]) rfl ?_
            refine RN.m rfl ?_
            refine RN.C [] rfl rfl rfl rfl (c_call rfl rfl) (Num_spec r 4 (by omega) (by omega)) rfl ?_
            rintro _ _ ⟨rfl, rfl⟩
            refine RN.p rfl (p_sadd rfl rfl rfl (by rw [hexN_length]; decide)) ?_
            refine RN.a rfl ?_
            refine RN.nil ?_
            refine hK28 _ _ ?_
            refine T.ret ?_
            refine Post.block_r ?_
            refine Post.seq_r ?_
            refine bodyQ_ret [] (RetRun.tmp RetRun.nil) ⟨congrArg strV (told6 (by omega)), rfl⟩ (Ent.refl _)
           ·
            first | refine T.known 32 rfl (congrArg Value.bool (decide_eq_false h32)) ?_ | refine T.known 32 rfl (congrArg Value.bool h32) ?_
            refine T.skip ?_
            refine hK2 _ _ ?_
            refine T.seq fun K29 hK29 => ?_
            refine T.region (l := [0, 1, 2]) rfl ?_
            refine RN.m rfl ?_
            refine RN.p rfl (p_runeStr rfl Tryd.underlying21 Tryd.underlying9 rfl) ?_
            refine RN.a rfl ?_
            refine RN.nil ?_
            refine hK29 _ _ ?_
            refine T.ret ?_
            refine bodyQ_ret [] (RetRun.tmp RetRun.nil) ⟨congrArg strV (told7 (by omega)), rfl⟩ (Ent.refl _)

theorem Wrong_spec (A : Assn) (hA : Glob 1 2 A) (l : List UInt8) (i r : Nat) (hi : i < l.length) (hr : r = (dec l i).1) : Ctr Tryd.prog 44 [strV l, intV i, .int .i32 (r : Int)] [A] (fun w Ps => w = .bool (decide (dec l i = (65533, 1))) ∧ Ps = [A]) := by
 refine Ctr.of_body Tryd.func44 rfl (by kernel_rfl) Tryd.ntmps44 rfl rfl (fun Fr => ?_)
 have hne : l.drop i ≠ [] := fun h => by have := congrArg List.length h; rw [List.length_drop] at this; simp at this; omega
 refine T.seq fun K1 hK1 => ?_
 refine T.region (l := [0]) rfl ?_
 refine RN.a rfl ?_
 refine RN.nil ?_
 refine hK1 _ _ ?_
 refine T.seq fun K2 hK2 => ?_
 refine T.seq fun K3 hK3 => ?_
 refine T.region (l := [0, 1]) rfl ?_
 refine RN.m rfl ?_
 refine RN.p rfl (p_neq rfl rfl rfl) ?_
 refine RN.nil ?_
 refine hK3 _ _ ?_
 first | refine T.cond_dec rfl (fun h10 => ?_) (fun h10 => ?_) | refine T.cond rfl (fun h10 => ?_) (fun h10 => ?_)
 ·
  refine T.seq fun K4 hK4 => ?_
  refine T.region (l := [0]) rfl ?_
  refine RN.a rfl ?_
  refine RN.nil ?_
  refine hK4 _ _ ?_
  refine T.ret ?_
  refine Post.seq_r ?_
  refine bodyQ_ret [A] (RetRun.tmp RetRun.nil) ⟨congrArg Value.bool (decide_eq_false (fun e => h10 (by have : (dec l i).1 = 65533 := congrArg Prod.fst e; omega))).symm, rfl⟩ (Ent.refl _)
 ·
  refine T.skip ?_
  refine hK2 _ _ ?_
  refine T.seq fun K5 hK5 => ?_
  refine T.region (l := [0, 1, 2, 3, 4, 5, 6, 7, 8]) rfl ?_
  refine RN.m rfl ?_
  refine RN.m rfl ?_
  refine RN.p rfl (by first | exact (p_slice_s_lo rfl Tryd.underlying9 rfl rfl (by omega)) | exact (p_sliceN_s rfl Tryd.underlying9 rfl rfl rfl (by omega)) | exact (p_slice_s rfl Tryd.underlying9 rfl rfl rfl (by omega))) ?_
  refine RN.C [0] rfl rfl rfl rfl (c_call rfl rfl) (Dec_spec A hA (l.drop i) hne) rfl ?_
  rintro _ _ ⟨rfl, rfl⟩
  rw [dec_drop]
  refine RN.m rfl ?_
  refine RN.p rfl (p_extract rfl rfl rfl) ?_
  refine RN.p rfl (p_extract rfl rfl rfl) ?_
  refine RN.a rfl ?_
  refine RN.a rfl ?_
  refine RN.nil ?_
  refine hK5 _ _ ?_
  refine T.seq fun K6 hK6 => ?_
  refine T.region (l := [0, 1, 2]) rfl ?_
  refine RN.m rfl ?_
  refine RN.p rfl (p_eql rfl rfl rfl) ?_
  refine RN.a rfl ?_
  refine RN.nil ?_
  refine hK6 _ _ ?_
  refine T.ret ?_
  refine bodyQ_ret [A] (RetRun.tmp RetRun.nil) ⟨congrArg Value.bool (decide_eq_decide.2 ⟨fun g => Prod.ext (by show (dec l i).1 = 65533; omega) (by show (dec l i).2 = 1; omega), fun g => by have : (dec l i).2 = 1 := congrArg Prod.snd g; omega⟩), rfl⟩ (Ent.refl _)

end Go.Proofs.YtokbjejbgbdkoaaDoor
