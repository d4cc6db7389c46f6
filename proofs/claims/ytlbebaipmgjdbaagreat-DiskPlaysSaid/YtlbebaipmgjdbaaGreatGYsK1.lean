/-
 Walks of package disk.
-/
import Derived.Test.YtlbebaipmgjdbaaGreatGYsM4
import Derived.Test.YtlbebaipmgjdbaaGreatGModelP
import Derived.Test.YtlbebaipmgjdbaaGreatGYsRep
import Derived.Test.YtlbebaipmgjdbaaGreatGSl12
import Derived.Test.YtlbebaipmgjdbaaGreatGEvS6sT0
set_option linter.unusedVariables false
set_option linter.unusedSimpArgs false
namespace Go.Proofs.YtlbebaipmgjdbaaGreat
open Go Go.Sl Go.Proofs
set_option maxRecDepth 20000
open Go.Mo Go.Evl
theorem Device_A (a : Nat) : Ctr Tryz.prog 20 [.iface 24 (ptr a 0)] [] (fun v Ps => v = .tuple #[zvA ti_45, .bool false] ∧ Ps = []) := by
 refine Ctr.of_body Tryz.func20 rfl (by kernel_rfl) Tryz.ntmps20 rfl rfl (fun Fr => ?_)
 refine T.seq fun K1 hK1 => ?_
 refine T.region (l := [0, 1]) rfl ?_
 refine RN.a rfl ?_
 refine RN.a rfl ?_
 refine RN.nil ?_
 refine hK1 _ _ ?_
 refine T.seq fun K2 hK2 => ?_
 refine T.region (l := [0, 1, 2, 3, 4, 5, 6]) rfl ?_
 refine RN.m rfl ?_
 refine RN.p rfl (p_taOtherP (hz := ti_45) rfl Tryz.underlying45 rfl (by decide)) ?_
 refine RN.m rfl ?_
 refine RN.p rfl (p_extract rfl rfl rfl) ?_
 refine RN.p rfl (p_extract rfl rfl rfl) ?_
 refine RN.a rfl ?_
 refine RN.a rfl ?_
 refine RN.nil ?_
 refine hK2 _ _ ?_
 refine T.seq fun K3 hK3 => ?_
 refine T.region (l := [0, 1, 2, 3]) rfl ?_
 refine RN.m rfl ?_
 refine RN.m rfl ?_
 refine RN.a rfl ?_
 refine RN.a rfl ?_
 refine RN.nil ?_
 refine hK3 _ _ ?_
 refine T.ret ?_
 refine bodyQ_ret [] (RetRun.tmp (RetRun.tmp RetRun.nil)) ⟨rfl, rfl⟩ (Ent.refl _)

theorem Sectors_A (a : Nat) (t : List UInt8) (htl : t.length ≤ 16384) : Ctr Tryz.prog 17 [.iface 24 (ptr a 0)] [arrA 59 60 5 a t] (fun v Ps => v = intV (t.length / 32) ∧ Ps = [arrA 59 60 5 a t]) := by
 refine Ctr.of_body Tryz.func17 rfl (by kernel_rfl) Tryz.ntmps17 rfl rfl (fun Fr => ?_)
 refine T.seq fun K1 hK1 => ?_
 refine T.region (l := [0]) rfl ?_
 refine RN.a rfl ?_
 refine RN.nil ?_
 refine hK1 _ _ ?_
 refine T.seq fun K2 hK2 => ?_
 refine T.seq fun K3 hK3 => ?_
 refine T.region (l := [0, 1, 2, 3, 4, 5, 6]) rfl ?_
 refine RN.m rfl ?_
 refine RN.C [] rfl rfl rfl rfl (c_call rfl rfl) (Device_A a) rfl ?_
 rintro _ _ ⟨rfl, rfl⟩
 refine RN.m rfl ?_
 refine RN.p rfl (p_extract rfl rfl rfl) ?_
 refine RN.p rfl (p_extract rfl rfl rfl) ?_
 refine RN.a rfl ?_
 refine RN.a rfl ?_
 refine RN.nil ?_
 refine hK3 _ _ ?_
 refine T.seq fun K4 hK4 => ?_
 refine T.region (l := [0]) rfl ?_
 refine RN.m rfl ?_
 refine RN.nil ?_
 refine hK4 _ _ ?_
 refine T.known 10 rfl (show _ = Value.bool false from rfl) ?_
 refine T.cond_f rfl ?_
 refine T.skip ?_
 refine hK2 _ _ ?_
 refine T.seq fun K5 hK5 => ?_
 refine T.region (l := [0, 1, 2, 3, 4]) rfl ?_
 refine RN.m rfl ?_
 refine RN.C [0] rfl rfl rfl rfl (c_invokeA rfl rfl (by kernel_rfl) rfl) (Content_A a t) rfl ?_
 rintro _ _ ⟨rfl, rfl⟩
 refine RN.p rfl (p_len_s rfl Tryz.underlying9 rfl) ?_
 refine RN.p rfl (by first | exact (p_quoN (b := 32) rfl rfl rfl (by omega)) | exact (p_quo rfl rfl rfl (by omega))) ?_
 refine RN.a rfl ?_
 refine RN.nil ?_
 refine hK5 _ _ ?_
 refine T.ret ?_
 refine bodyQ_ret [arrA 59 60 5 a t] (RetRun.tmp RetRun.nil) ⟨rfl, rfl⟩ (Ent.refl _)

theorem right_A (c lba n : Int) (hc : 0 ≤ c ∧ c ≤ 9223372036854775807) : Ctr Tryz.prog 26 [.int .i64 c, .int .i64 lba, .int .i64 n] [] (fun v Ps => v = .bool (decide (Right c lba n)) ∧ Ps = []) := by
 refine Ctr.of_body Tryz.func26 rfl (by kernel_rfl) Tryz.ntmps26 rfl rfl (fun Fr => ?_)
 refine T.seq fun K1 hK1 => ?_
 refine T.region (l := [0]) rfl ?_
 refine RN.a rfl ?_
 refine RN.nil ?_
 refine hK1 _ _ ?_
 refine T.seq fun K2 hK2 => ?_
 refine T.region (l := [0, 1, 2, 3, 4, 5, 6, 7, 8, 9, 10, 11, 12, 13, 14, 15, 16, 17, 18]) rfl ?_
 refine RN.m rfl ?_
 refine RN.p rfl (p_geq rfl rfl rfl) ?_
 refine RN.m rfl ?_
 first | refine RN.split_dec 9 rfl (fun h9 => ?_) (fun h9 => ?_) | refine RN.split 9 rfl (fun h9 => ?_) (fun h9 => ?_)
 ·
  refine RN.m rfl ?_
  refine RN.m rfl ?_
  refine RN.p rfl (p_leq rfl rfl rfl) ?_
  refine RN.pt rfl ?_
  refine RN.m rfl ?_
  first | refine RN.split_dec 14 rfl (fun h14 => ?_) (fun h14 => ?_) | refine RN.split 14 rfl (fun h14 => ?_) (fun h14 => ?_)
  ·
   refine RN.m rfl ?_
   refine RN.p rfl (p_geq rfl rfl rfl) ?_
   refine RN.pt rfl ?_
   refine RN.m rfl ?_
   first | refine RN.split_dec 18 rfl (fun h18 => ?_) (fun h18 => ?_) | refine RN.split 18 rfl (fun h18 => ?_) (fun h18 => ?_)
   ·
    refine RN.m rfl ?_
    refine RN.m rfl ?_
    refine RN.m rfl ?_
    refine RN.p rfl (by first | exact (p_subN rfl rfl rfl (by omega)) | exact (p_sub rfl rfl rfl (by omega))) ?_
    refine RN.p rfl (p_leq rfl rfl rfl) ?_
    refine RN.pt rfl ?_
    refine RN.a rfl ?_
    refine RN.nil ?_
    refine hK2 _ _ ?_
    refine T.ret ?_
    refine bodyQ_ret [] (RetRun.tmp RetRun.nil) ⟨congrArg Value.bool (by simp only [Right]; first | (simp; omega) | (simp [*]; done) | (simp [*]; omega)), rfl⟩ (Ent.refl _)
   ·
    refine RN.no0 rfl ?_
    refine RN.no0 rfl ?_
    refine RN.no0 rfl ?_
    refine RN.no0 rfl ?_
    refine RN.no0 rfl ?_
    refine RN.pf rfl ?_
    refine RN.a rfl ?_
    refine RN.nil ?_
    refine hK2 _ _ ?_
    refine T.ret ?_
    refine bodyQ_ret [] (RetRun.tmp RetRun.nil) ⟨congrArg Value.bool (by simp only [Right]; first | (simp; omega) | (simp [*]; done) | (simp [*]; omega)), rfl⟩ (Ent.refl _)
  ·
   refine RN.no0 rfl ?_
   refine RN.no0 rfl ?_
   refine RN.pf rfl ?_
   refine RN.m rfl ?_
   refine RN.no0 rfl ?_
   refine RN.no0 rfl ?_
   refine RN.no0 rfl ?_
   refine RN.no0 rfl ?_
   refine RN.no0 rfl ?_
   refine RN.pf rfl ?_
   refine RN.a rfl ?_
   refine RN.nil ?_
   refine hK2 _ _ ?_
   refine T.ret ?_
   refine bodyQ_ret [] (RetRun.tmp RetRun.nil) ⟨congrArg Value.bool (by simp only [Right]; first | (simp; omega) | (simp [*]; done) | (simp [*]; omega)), rfl⟩ (Ent.refl _)
 ·
  refine RN.no0 rfl ?_
  refine RN.no0 rfl ?_
  refine RN.no0 rfl ?_
  refine RN.pf rfl ?_
  refine RN.m rfl ?_
  refine RN.no0 rfl ?_
  refine RN.no0 rfl ?_
  refine RN.pf rfl ?_
  refine RN.m rfl ?_
  refine RN.no0 rfl ?_
  refine RN.no0 rfl ?_
  refine RN.no0 rfl ?_
  refine RN.no0 rfl ?_
  refine RN.no0 rfl ?_
  refine RN.pf rfl ?_
  refine RN.a rfl ?_
  refine RN.nil ?_
  refine hK2 _ _ ?_
  refine T.ret ?_
  refine bodyQ_ret [] (RetRun.tmp RetRun.nil) ⟨congrArg Value.bool (by simp only [Right]; first | (simp; omega) | (simp [*]; done) | (simp [*]; omega)), rfl⟩ (Ent.refl _)

def cpT (t : List UInt8) (lba n at_ : Int) : List UInt8 := if Right (t.length / 32 : Nat) lba n then wrT t at_ n (rdT t lba n) else t
def cpE (t : List UInt8) (lba n at_ : Int) : Int := if Right (t.length / 32 : Nat) lba n then erT t at_ n else 1
theorem erT_ne {t : List UInt8} {lba n : Int} (h : erT t lba n ≠ 0) : ¬ Right (t.length / 32 : Nat) lba n := fun hR => h (by unfold erT; rw [if_pos hR])
theorem erT_eq {t : List UInt8} {lba n : Int} (h : erT t lba n = 0) : Right (t.length / 32 : Nat) lba n := by
 unfold erT at h
 by_cases hR : Right (t.length / 32 : Nat) lba n
 · exact hR
 · rw [if_neg hR] at h; cases h
theorem erT_no {t : List UInt8} {lba n : Int} (h : ¬ Right (t.length / 32 : Nat) lba n) : erT t lba n = 1 := by unfold erT; rw [if_neg h]
theorem erT_yes {t : List UInt8} {lba n : Int} (h : Right (t.length / 32 : Nat) lba n) : erT t lba n = 0 := by unfold erT; rw [if_pos h]

theorem Copyd_A (a : Nat) (t : List UInt8) (lba n at_ : Int) : Ctr Tryz.prog 13 [.iface 24 (ptr a 0), .iface 24 (ptr a 0), .int .i64 lba, .int .i64 n, .int .i64 at_] [arrA 59 60 5 a t] (fun v Ps => v = .int .i64 (cpE t lba n at_) ∧ Ps = [arrA 59 60 5 a (cpT t lba n at_)]) := by
 refine Ctr.of_body Tryz.func13 rfl (by kernel_rfl) Tryz.ntmps13 rfl rfl (fun Fr => ?_)
 refine T.seq fun K1 hK1 => ?_
 refine T.region (l := [0]) rfl ?_
 refine RN.a rfl ?_
 refine RN.nil ?_
 refine hK1 _ _ ?_
 refine T.seq fun K2 hK2 => ?_
 refine T.region (l := [0, 1, 2, 3, 4, 5, 6, 7, 8]) rfl ?_
 refine RN.m rfl ?_
 refine RN.m rfl ?_
 refine RN.m rfl ?_
 refine RN.C [0] rfl rfl rfl rfl (c_invokeA rfl rfl (by kernel_rfl) rfl) (Read_A a t lba n) rfl ?_
 rintro _ _ ⟨rfl, rfl⟩
 refine RN.m rfl ?_
 refine RN.p rfl (p_extract rfl rfl rfl) ?_
 refine RN.p rfl (p_extract rfl rfl rfl) ?_
 refine RN.a rfl ?_
 refine RN.a rfl ?_
 refine RN.nil ?_
 refine hK2 _ _ ?_
 refine T.seq fun K3 hK3 => ?_
 refine T.seq fun K4 hK4 => ?_
 refine T.region (l := [0, 1]) rfl ?_
 refine RN.m rfl ?_
 refine RN.p rfl (p_neq rfl rfl rfl) ?_
 refine RN.nil ?_
 refine hK4 _ _ ?_
 first | refine T.cond_dec rfl (fun h21 => ?_) (fun h21 => ?_) | refine T.cond rfl (fun h21 => ?_) (fun h21 => ?_)
 ·
  have hR := erT_ne h21
  refine T.seq fun K5 hK5 => ?_
  refine T.region (l := [0, 1]) rfl ?_
  refine RN.m rfl ?_
  refine RN.a rfl ?_
  refine RN.nil ?_
  refine hK5 _ _ ?_
  refine T.ret ?_
  refine Post.seq_r ?_
  refine bodyQ_ret [arrA 59 60 5 a t] (RetRun.tmp RetRun.nil) ⟨by rw [erT_no hR, cpE, if_neg hR]; rfl, by rw [cpT, if_neg hR]⟩ (Ent.refl _)
 ·
  have hR := erT_eq (Classical.not_not.1 h21)
  refine T.skip ?_
  refine hK3 _ _ ?_
  refine T.seq fun K6 hK6 => ?_
  refine T.region (l := [0, 1, 2, 3, 4, 5]) rfl ?_
  refine RN.m rfl ?_
  refine RN.m rfl ?_
  refine RN.m rfl ?_
  refine RN.m rfl ?_
  refine RN.C [0] rfl rfl rfl rfl (c_invokeA rfl rfl (by kernel_rfl) rfl) (Write_A a t at_ n (rdT t lba n)) rfl ?_
  rintro _ _ ⟨rfl, rfl⟩
  refine RN.a rfl ?_
  refine RN.nil ?_
  refine hK6 _ _ ?_
  refine T.ret ?_
  refine bodyQ_ret [arrA 59 60 5 a (wrT t at_ n (rdT t lba n))] (RetRun.tmp RetRun.nil) ⟨by rw [cpE, if_pos hR]; rfl, by rw [cpT, if_pos hR]⟩ (Ent.refl _)

theorem Same_A (a b : Nat) (t u : List UInt8) (lba n : Int) : Ctr Tryz.prog 14 [.iface 24 (ptr a 0), .iface 24 (ptr b 0), .int .i64 lba, .int .i64 n] [arrA 59 60 5 a t, arrA 59 60 5 b u] (fun v Ps => v = .tuple #[.bool (decide (Right (t.length / 32 : Nat) lba n ∧ Right (u.length / 32 : Nat) lba n ∧ rdT t lba n = rdT u lba n)), .int .i64 (if Right (t.length / 32 : Nat) lba n then erT u lba n else 1)] ∧ Ps = [arrA 59 60 5 b u, arrA 59 60 5 a t]) := by
 refine Ctr.of_body Tryz.func14 rfl (by kernel_rfl) Tryz.ntmps14 rfl rfl (fun Fr => ?_)
 refine T.seq fun K1 hK1 => ?_
 refine T.region (l := [0, 1]) rfl ?_
 refine RN.a rfl ?_
 refine RN.a rfl ?_
 refine RN.nil ?_
 refine hK1 _ _ ?_
 refine T.seq fun K2 hK2 => ?_
 refine T.region (l := [0, 1, 2, 3, 4, 5, 6, 7, 8]) rfl ?_
 refine RN.m rfl ?_
 refine RN.m rfl ?_
 refine RN.m rfl ?_
 refine RN.C [0] rfl rfl rfl rfl (c_invokeA rfl rfl (by kernel_rfl) rfl) (Read_A a t lba n) rfl ?_
 rintro _ _ ⟨rfl, rfl⟩
 refine RN.m rfl ?_
 refine RN.p rfl (p_extract rfl rfl rfl) ?_
 refine RN.p rfl (p_extract rfl rfl rfl) ?_
 refine RN.a rfl ?_
 refine RN.a rfl ?_
 refine RN.nil ?_
 refine hK2 _ _ ?_
 refine T.seq fun K3 hK3 => ?_
 refine T.seq fun K4 hK4 => ?_
 refine T.region (l := [0, 1]) rfl ?_
 refine RN.m rfl ?_
 refine RN.p rfl (p_neq rfl rfl rfl) ?_
 refine RN.nil ?_
 refine hK4 _ _ ?_
 first | refine T.cond_dec rfl (fun h21 => ?_) (fun h21 => ?_) | refine T.cond rfl (fun h21 => ?_) (fun h21 => ?_)
 ·
  have hR := erT_ne h21
  refine T.seq fun K5 hK5 => ?_
  refine T.region (l := [0, 1, 2]) rfl ?_
  refine RN.m rfl ?_
  refine RN.a rfl ?_
  refine RN.a rfl ?_
  refine RN.nil ?_
  refine hK5 _ _ ?_
  refine T.ret ?_
  refine Post.seq_r ?_
  refine bodyQ_ret [arrA 59 60 5 b u, arrA 59 60 5 a t] (RetRun.tmp (RetRun.tmp RetRun.nil)) ⟨by rw [erT_no hR, if_neg hR, decide_eq_false (p := Right (t.length / 32 : Nat) lba n ∧ Right (u.length / 32 : Nat) lba n ∧ rdT t lba n = rdT u lba n) (fun h => hR h.1)]; rfl, rfl⟩ (Ent.pull (is := [1, 0]) rfl)
 ·
  have hR := erT_eq (Classical.not_not.1 h21)
  refine T.skip ?_
  refine hK3 _ _ ?_
  refine T.seq fun K6 hK6 => ?_
  refine T.region (l := [0, 1, 2, 3, 4, 5, 6, 7, 8]) rfl ?_
  refine RN.m rfl ?_
  refine RN.m rfl ?_
  refine RN.m rfl ?_
  refine RN.C [1] rfl rfl rfl rfl (c_invokeA rfl rfl (by kernel_rfl) rfl) (Read_A b u lba n) rfl ?_
  rintro _ _ ⟨rfl, rfl⟩
  refine RN.m rfl ?_
  refine RN.p rfl (p_extract rfl rfl rfl) ?_
  refine RN.p rfl (p_extract rfl rfl rfl) ?_
  refine RN.a rfl ?_
  refine RN.a rfl ?_
  refine RN.nil ?_
  refine hK6 _ _ ?_
  refine T.seq fun K7 hK7 => ?_
  refine T.seq fun K8 hK8 => ?_
  refine T.region (l := [0, 1]) rfl ?_
  refine RN.m rfl ?_
  refine RN.p rfl (p_neq rfl rfl rfl) ?_
  refine RN.nil ?_
  refine hK8 _ _ ?_
  first | refine T.cond_dec rfl (fun h31 => ?_) (fun h31 => ?_) | refine T.cond rfl (fun h31 => ?_) (fun h31 => ?_)
  ·
   have hR2 := erT_ne h31
   refine T.seq fun K9 hK9 => ?_
   refine T.region (l := [0, 1, 2]) rfl ?_
   refine RN.m rfl ?_
   refine RN.a rfl ?_
   refine RN.a rfl ?_
   refine RN.nil ?_
   refine hK9 _ _ ?_
   refine T.ret ?_
   refine Post.seq_r ?_
   refine bodyQ_ret [arrA 59 60 5 b u, arrA 59 60 5 a t] (RetRun.tmp (RetRun.tmp RetRun.nil)) ⟨by rw [erT_no hR2, if_pos hR, decide_eq_false (p := Right (t.length / 32 : Nat) lba n ∧ Right (u.length / 32 : Nat) lba n ∧ rdT t lba n = rdT u lba n) (fun h => hR2 h.2.1)]; rfl, rfl⟩ (Ent.refl _)
  ·
   have hR2 := erT_eq (Classical.not_not.1 h31)
   refine T.skip ?_
   refine hK7 _ _ ?_
   refine T.seq fun K10 hK10 => ?_
   refine T.region (l := [0, 1, 2, 3, 4]) rfl ?_
   refine RN.m rfl ?_
   refine RN.m rfl ?_
   refine RN.p rfl (p_seql rfl rfl rfl) ?_
   refine RN.a rfl ?_
   refine RN.a rfl ?_
   refine RN.nil ?_
   refine hK10 _ _ ?_
   refine T.ret ?_
   refine bodyQ_ret [arrA 59 60 5 b u, arrA 59 60 5 a t] (RetRun.tmp (RetRun.tmp RetRun.nil)) ⟨by rw [erT_yes hR2, if_pos hR, decide_eq_decide.2 (show (Right (t.length / 32 : Nat) lba n ∧ Right (u.length / 32 : Nat) lba n ∧ rdT t lba n = rdT u lba n) ↔ rdT t lba n = rdT u lba n from ⟨fun h => h.2.2, fun h => ⟨hR, hR2, h⟩⟩)]; rfl, rfl⟩ (Ent.refl _)

theorem Repeat_A (l : List UInt8) (c : Nat) (h1 : c ≤ 9223372036854775807) (h2 : l.length * c ≤ 140737488355328) : Ctr Tryz.prog 27 [strV l, intV c] [] (fun v Ps => v = strV (Go.Lib.repeatL l c) ∧ Ps = []) := by
 refine Ctr.ofBelowA ⟨_, Tryz.func27, by kernel_rfl, by kernel_rfl⟩ fun w => ?_
 have h := Tryz.strings_Repeat ⟨l.toArray⟩ c w h1 (by show l.toArray.size * c ≤ _; simpa using h2)
 simpa using h

theorem Fill_A (a : Nat) (t : List UInt8) (lba n : Int) (s : List UInt8) (htl : t.length ≤ 16384) (hsl : s.length ≤ 140737488351232) : Ctr Tryz.prog 11 [.iface 24 (ptr a 0), .int .i64 lba, .int .i64 n, strV s] [arrA 59 60 5 a t] (fun v Ps => v = .int .i64 (if s = [] then 1 else erT t lba n) ∧ Ps = [arrA 59 60 5 a (if s = [] then t else wrT t lba n (cyc s (n.toNat * 32)))]) := by
 refine Ctr.of_body Tryz.func11 rfl (by kernel_rfl) Tryz.ntmps11 rfl rfl (fun Fr => ?_)
 refine T.seq fun K1 hK1 => ?_
 refine T.region (l := [0]) rfl ?_
 refine RN.a rfl ?_
 refine RN.nil ?_
 refine hK1 _ _ ?_
 refine T.seq fun K2 hK2 => ?_
 refine T.seq fun K3 hK3 => ?_
 refine T.region (l := [0, 1, 2, 3, 4, 5, 6, 7, 8, 9]) rfl ?_
 refine RN.m rfl ?_
 refine RN.p rfl (p_seql rfl rfl rfl) ?_
 refine RN.m rfl ?_
 first | refine RN.split_dec 12 rfl (fun h12 => ?_) (fun h12 => ?_) | refine RN.split 12 rfl (fun h12 => ?_) (fun h12 => ?_)
 ·
  have hs : s = [] := h12
  refine RN.no0 rfl ?_
  refine RN.no0 rfl ?_
  refine RN.no0 rfl ?_
  refine RN.no0 rfl ?_
  refine RN.no0 rfl ?_
  refine RN.no0 rfl ?_
  refine RN.pt rfl ?_
  refine RN.nil ?_
  refine hK3 _ _ ?_
  refine T.cond_t rfl ?_
  refine T.seq fun K4 hK4 => ?_
  refine T.region (l := [0]) rfl ?_
  refine RN.a rfl ?_
  refine RN.nil ?_
  refine hK4 _ _ ?_
  refine T.ret ?_
  refine Post.seq_r ?_
  refine bodyQ_ret [arrA 59 60 5 a t] (RetRun.tmp RetRun.nil) ⟨by rw [if_pos hs]; rfl, by rw [if_pos hs]⟩ (Ent.refl _)
 ·
  have hs : ¬ s = [] := h12
  have hs0 : 0 < s.length := List.length_pos_iff.2 hs
  refine RN.m rfl ?_
  refine RN.C [0] rfl rfl rfl rfl (c_call rfl rfl) (Sectors_A a t htl) rfl ?_
  rintro _ _ ⟨rfl, rfl⟩
  refine RN.m rfl ?_
  refine RN.m rfl ?_
  refine RN.C [] rfl rfl rfl rfl (c_call rfl rfl) (right_A (t.length / 32 : Nat) lba n (by omega)) rfl ?_
  rintro _ _ ⟨rfl, rfl⟩
  refine RN.p rfl (by first | exact (p_not_dec rfl rfl) | exact (p_not rfl rfl)) ?_
  refine RN.pf rfl ?_
  refine RN.nil ?_
  refine hK3 _ _ ?_
  first | refine T.cond_dec rfl (fun h19 => ?_) (fun h19 => ?_) | refine T.cond rfl (fun h19 => ?_) (fun h19 => ?_)
  ·
   have hR : ¬ Right (t.length / 32 : Nat) lba n := h19
   refine T.seq fun K5 hK5 => ?_
   refine T.region (l := [0]) rfl ?_
   refine RN.a rfl ?_
   refine RN.nil ?_
   refine hK5 _ _ ?_
   refine T.ret ?_
   refine Post.seq_r ?_
   refine bodyQ_ret [arrA 59 60 5 a t] (RetRun.tmp RetRun.nil) ⟨by rw [if_neg hs, erT_no hR]; rfl, by rw [if_neg hs, wrT, if_neg hR]⟩ (Ent.refl _)
  ·
   have hR : Right (t.length / 32 : Nat) lba n := Classical.not_not.1 h19
   have hR2 := hR
   unfold Right at hR2
   obtain ⟨nn, rfl⟩ := Int.eq_ofNat_of_zero_le (show 0 ≤ n by omega)
   have hm0 : 0 < min s.length (nn * 32) := by omega
   have hml : (s.take (min s.length (nn * 32))).length = min s.length (nn * 32) := by simp
   have hdm := Nat.div_mul_le_self (nn * 32) (min s.length (nn * 32))
   have hrl : (s.take (min s.length (nn * 32))).length * (nn * 32 / min s.length (nn * 32) + 1) ≤ 140737488355328 := by
    rw [hml, Nat.mul_succ, Nat.mul_comm (min s.length (nn * 32))]
    omega
   have hdv : nn * 32 / min s.length (nn * 32) ≤ nn * 32 := Nat.div_le_self _ _
   have hlen : nn * 32 ≤ (Go.Lib.repeatL (s.take (min s.length (nn * 32))) (nn * 32 / min s.length (nn * 32) + 1)).length := by
    rw [rep_length, hml]
    exact fill_len hm0
   refine T.skip ?_
   refine hK2 _ _ ?_
   refine T.seq fun K6 hK6 => ?_
   refine T.region (l := [0, 1, 2]) rfl ?_
   refine RN.m rfl ?_
   refine RN.p rfl (by first | exact (p_mulN (b := 32) rfl rfl rfl (by omega)) | exact (p_mul rfl rfl rfl (by omega))) ?_
   refine RN.a rfl ?_
   refine RN.nil ?_
   refine hK6 _ _ ?_
   refine T.seq fun K7 hK7 => ?_
   refine T.regionD (z := 22) (Bs := []) (l := [(0, .pure), (1, .pure), (2, .pure), (3, .pure), (4, .pure), (5, .pure), (6, .pure), (7, .pure), (8, .pure), (9, .pure), (10, .pure), (11, .pure), (12, .pure), (13, .pure), (14, .pure), (15, .pure), (17, .pure), (19, .pure), (20, .pure), (21, .pure), (16, .eff), (18, .pure), (22, .eff), (23, .pure)]) mixed (by kernel_rfl) (Ent.nil _) ?_
   refine RD.n rfl (p_move rfl (by conv => lhs; whnf)) ?_
   refine RD.n rfl (p_move rfl (by conv => lhs; whnf)) ?_
   refine RD.n rfl (p_move rfl (by conv => lhs; whnf)) ?_
   refine RD.n rfl (p_move rfl (by conv => lhs; whnf)) ?_
   refine RD.n rfl (p_move rfl (by conv => lhs; whnf)) ?_
   refine RD.n rfl (p_len_s rfl Tryz.underlying9 rfl) ?_
   refine RD.n rfl (p_move rfl (by conv => lhs; whnf)) ?_
   refine RD.n rfl (by first | exact (p_minN rfl rfl rfl) | exact (p_min rfl rfl rfl)) ?_
   refine RD.n rfl (by first | exact (p_slice_s_hi rfl Tryz.underlying9 rfl rfl (by omega)) | exact (p_sliceN_s (l := 0) rfl Tryz.underlying9 rfl rfl rfl (by omega)) | exact (p_slice_s rfl Tryz.underlying9 rfl rfl rfl (by omega))) ?_
   refine RD.n rfl (p_move rfl (by conv => lhs; whnf)) ?_
   refine RD.n rfl (p_move rfl (by conv => lhs; whnf)) ?_
   refine RD.n rfl (p_len_s rfl Tryz.underlying9 rfl) ?_
   refine RD.n rfl (p_move rfl (by conv => lhs; whnf)) ?_
   refine RD.n rfl (by first | exact (p_minN rfl rfl rfl) | exact (p_min rfl rfl rfl)) ?_
   refine RD.n rfl (by first | exact (p_quoN rfl rfl rfl (by omega)) | exact (p_quo rfl rfl rfl (by omega))) ?_
   refine RD.n rfl (by first | exact (p_addN (b := 1) rfl rfl rfl (by omega)) | exact (p_add rfl rfl rfl (by omega))) ?_
   refine RD.n rfl (p_move rfl (by conv => lhs; whnf)) ?_
   refine RD.n rfl (p_mkFnM rfl rfl) ?_
   refine RD.n rfl (p_nilCheckM (f := 28) rfl rfl (by kernel_rfl)) ?_
   refine RD.n rfl (p_move rfl (by conv => lhs; whnf)) ?_
   refine RD.C [] rfl rfl rfl rfl (c_call rfl rfl) (Repeat_A (s.take (min s.length (nn * 32))) (nn * 32 / min s.length (nn * 32) + 1) (by omega) hrl) rfl (by rintro _ _ ⟨rfl, rfl⟩; exact .inl (Ent.nil _)) ?_
   rintro _ _ ⟨rfl, rfl⟩
   refine RD.n rfl (by first | exact (p_slice_s_hi rfl Tryz.underlying9 rfl rfl (by omega)) | exact (p_sliceN_s (l := 0) rfl Tryz.underlying9 rfl rfl rfl (by omega)) | exact (p_slice_s rfl Tryz.underlying9 rfl rfl rfl (by omega))) ?_
   refine RD.C [0] rfl rfl rfl rfl (c_invokeA rfl rfl (by kernel_rfl) rfl) (Write_A a t lba nn ((Go.Lib.repeatL (s.take (min s.length (nn * 32))) (nn * 32 / min s.length (nn * 32) + 1)).take (nn * 32))) rfl (fun _ _ _ => .inr rfl) ?_
   rintro _ _ ⟨rfl, rfl⟩
   refine RD.n rfl (p_assign rfl (by conv => lhs; whnf)) ?_
   refine RD.nil ?_
   refine hK7 _ _ ?_
   refine T.ret ?_
   refine bodyQ_ret [arrA 59 60 5 a (wrT t lba nn ((Go.Lib.repeatL (s.take (min s.length (nn * 32))) (nn * 32 / min s.length (nn * 32) + 1)).take (nn * 32)))] (RetRun.tmp RetRun.nil) ⟨by rw [if_neg hs]; rfl, by rw [if_neg hs, fill_cyc hs0 (by omega)]; rfl⟩ (Ent.refl _)

theorem filled_spec (s : List UInt8) (m : Nat) (hs : 0 < s.length) (hsl : s.length ≤ 140737488351232) (hm : m ≤ 65536) : Ctr Tryz.prog 10 [strV s, intV m] [] (fun v Ps => v = strV (cyc s m) ∧ Ps = []) := by
 refine Ctr.of_body Tryz.func10 rfl (by kernel_rfl) Tryz.ntmps10 rfl rfl (fun Fr => ?_)
 refine T.seq fun K1 hK1 => ?_
 refine T.region (l := [0]) rfl ?_
 refine RN.a rfl ?_
 refine RN.nil ?_
 refine hK1 _ _ ?_
 refine T.seq fun K2 hK2 => ?_
 refine T.region (l := [0, 1, 2]) rfl ?_
 refine RN.m rfl ?_
 refine RN.E rfl rfl rfl rfl (by first | exact (e_makeSliceN rfl Tryz.underlying60 ti_5 rfl rfl rfl (by omega)) | exact (e_makeSlice rfl Tryz.underlying60 ti_5 rfl rfl rfl (by omega))) ?_
 rintro _ _ ⟨b8, rfl, rfl⟩
 refine RN.a rfl ?_
 refine RN.nil ?_
 refine hK2 _ _ ?_
 refine T.seq fun K3 hK3 => ?_
 refine T.seq fun K4 hK4 => ?_
 refine T.region (l := [0]) rfl ?_
 refine RN.a rfl ?_
 refine RN.nil ?_
 refine hK4 _ _ ?_
 refine T.block ?_
 refine T.loop (G := Nat) (fun i => i ≤ m) (fun i => [(0, strV s), (1, intV m), (5, slc b8 0 m m), (6, intV i)]) (fun i => [row b8 5 ((cyc s i).map u8V ++ List.replicate (m - i) (u8V 0)), Fr]) (fun i => m - i) 0 (by omega) (LiveIs.cons rfl (LiveIs.cons rfl (LiveIs.cons rfl (LiveIs.cons rfl LiveIs.nil)))) ?_ ?_
 ·
  refine Ent.of_eq ?_
  simp [zeros, cyc]
  rfl
 rintro i e5 hi
 refine T.seq fun K6 hK6 => ?_
 refine T.seq fun K7 hK7 => ?_
 refine T.region (l := [0, 1, 2]) rfl ?_
 refine RN.m rfl ?_
 refine RN.m rfl ?_
 refine RN.p rfl (p_lss rfl rfl rfl) ?_
 refine RN.nil ?_
 refine hK7 _ _ ?_
 first | refine T.cond_dec rfl (fun h11 => ?_) (fun h11 => ?_) | refine T.cond rfl (fun h11 => ?_) (fun h11 => ?_)
 ·
  refine T.skip ?_
  refine hK6 _ _ ?_
  refine T.seq fun K8 hK8 => ?_
  refine T.block ?_
  refine T.region (l := [0, 1, 2, 3, 4, 5, 6, 7, 8, 9]) rfl ?_
  refine RN.m rfl ?_
  refine RN.m rfl ?_
  refine RN.m rfl ?_
  refine RN.m rfl ?_
  refine RN.m rfl ?_
  refine RN.p rfl (p_len_s rfl Tryz.underlying9 rfl) ?_
  have hmod : i % s.length < s.length := Nat.mod_lt _ hs
  refine RN.p rfl (by first | exact (p_remN rfl rfl rfl (by omega)) | exact (p_rem rfl rfl rfl (by omega))) ?_
  refine RN.p rfl (by first | exact (p_indexN_s rfl Tryz.underlying9 rfl rfl (List.getElem?_eq_getElem hmod)) | exact (p_index_s rfl Tryz.underlying9 rfl rfl (List.getElem?_eq_getElem hmod))) ?_
  refine RN.p rfl (by first | exact (p_indexAddr1N rfl Tryz.underlying60 ts_5 rfl rfl (by omega)) | exact (p_indexAddr1 rfl Tryz.underlying60 ts_5 rfl rfl (by omega))) ?_
  refine RN.EN rfl rfl rfl (by first | exact (e_store rfl ts_5 rfl (by conv => lhs; whnf) (by first | rfl | assumption) (i := 0) rfl (by simp [cyc_length]; omega)) | exact (e_store rfl ts_5 rfl (by conv => lhs; whnf) (by first | rfl | assumption) (i := 1) rfl (by simp [cyc_length]; omega)) | exact (e_store rfl ts_5 rfl (by conv => lhs; whnf) (by first | rfl | assumption) (i := 2) rfl (by simp [cyc_length]; omega)) | exact (e_store rfl ts_5 rfl (by conv => lhs; whnf) (by first | rfl | assumption) (i := 3) rfl (by simp [cyc_length]; omega)) | exact (e_store rfl ts_5 rfl (by conv => lhs; whnf) (by first | rfl | assumption) (i := 4) rfl (by simp [cyc_length]; omega))) ?_
  rintro _ _ ⟨rfl, rfl⟩
  refine RN.nil ?_
  refine hK8 _ _ ?_
  refine T.region (l := [0, 1, 2]) rfl ?_
  refine RN.m rfl ?_
  refine RN.p rfl (by first | exact (p_addN (b := 1) rfl rfl rfl (by omega)) | exact (p_add rfl rfl rfl (by omega))) ?_
  refine RN.a rfl ?_
  refine RN.nil ?_
  refine ⟨i + 1, (by omega), (by omega), (LiveIs.cons rfl (LiveIs.cons rfl (LiveIs.cons rfl (LiveIs.cons rfl LiveIs.nil)))), ?_⟩
  exact Ent.of_eq (by simp only [setN]; rw [cyc_set hmod (by omega)])
 ·
  obtain rfl : i = m := by omega
  refine T.exit ?_
  refine Post.seq_x ?_
  refine Post.seq_x ?_
  refine Post.block_hit ?_
  refine hK3 _ _ ?_
  refine T.seq fun K9 hK9 => ?_
  refine T.region (l := [0, 1, 2]) rfl ?_
  refine RN.m rfl ?_
  refine RN.u rfl (q_bytes_str rfl Tryz.underlying60 Tryz.underlying5 Tryz.underlying9 rfl (i := 0) rfl (l := cyc s i) (by simp [cyc_length]) (by rw [List.drop_zero, Nat.sub_self, List.replicate_zero, List.append_nil, List.take_of_length_le (by simp [cyc_length])])) ?_
  refine RN.a rfl ?_
  refine RN.nil ?_
  refine hK9 _ _ ?_
  refine T.ret ?_
  refine bodyQ_ret [] (RetRun.tmp RetRun.nil) ⟨rfl, rfl⟩ (Ent.drop _ _)

end Go.Proofs.YtlbebaipmgjdbaaGreat
namespace Go.Proofs.YtlbebaipmgjdbaaGreat
open Go Go.Sl Go.Proofs
set_option maxRecDepth 20000
open Go.Mo Go.Evl
structure Dct where
 op : Int
 lba : Int
 n : Int
 at_ : Int
 data : List UInt8
def Dct.cells (c : Dct) : List Value := [.int .i64 c.op, .int .i64 c.lba, .int .i64 c.n, .int .i64 c.at_, strV c.data]
theorem RRead_A (l : List UInt8) (lba n : Int) (hl : l.length ≤ 1099511627776) : Ctr Tryz.prog 12 [strV l, .int .i64 lba, .int .i64 n] [] (fun v Ps => v = .tuple #[strV (rdT l lba n), .bool (decide (Right (l.length / 32 : Nat) lba n))] ∧ Ps = []) := RRead_spec l lba n hl
theorem RWrite_A (l : List UInt8) (lba n : Int) (data : List UInt8) (hl : l.length ≤ 1099511627776) (hd : data.length ≤ 140737488351232) : Ctr Tryz.prog 9 [strV l, .int .i64 lba, .int .i64 n, strV data] [] (fun v Ps => v = .tuple #[strV (wrT l lba n data), .bool (decide (Right (l.length / 32 : Nat) lba n))] ∧ Ps = []) := RWrite_spec l lba n data hl hd
theorem erT_cond (t : List UInt8) (lba n : Int) : erT t lba n = cond (decide (Right (t.length / 32 : Nat) lba n)) 0 1 := by
 by_cases h : Right (t.length / 32 : Nat) lba n
 · rw [erT_yes h, decide_eq_true h]; rfl
 · rw [erT_no h, decide_eq_false h]; rfl
theorem ifer_cond (t : List UInt8) (lba n : Int) : (if Right (t.length / 32 : Nat) lba n then erT t lba n else 1) = cond (decide (Right (t.length / 32 : Nat) lba n)) 0 1 := by
 by_cases h : Right (t.length / 32 : Nat) lba n
 · rw [if_pos h, erT_yes h, decide_eq_true h]; rfl
 · rw [if_neg h, decide_eq_false h]; rfl
theorem erT_len {t u : List UInt8} (h : u.length = t.length) (lba n : Int) : erT t lba n = erT u lba n := by unfold erT; rw [h]
theorem wrT_no {t : List UInt8} {lba n : Int} {data : List UInt8} (h : ¬ Right (t.length / 32 : Nat) lba n) : wrT t lba n data = t := by unfold wrT; rw [if_neg h]
theorem wrT_cond (t : List UInt8) (lba n : Int) (data : List UInt8) : wrT t lba n data = cond (decide (Right (t.length / 32 : Nat) lba n)) (wrT t lba n data) t := by
 by_cases h : Right (t.length / 32 : Nat) lba n
 · rw [decide_eq_true h]; rfl
 · rw [decide_eq_false h, wrT_no h]; rfl
theorem cond_same (b : Bool) (s : List UInt8) : s = cond b s s := by cases b <;> rfl
theorem same_yes {t u : List UInt8} {lba n : Int} (h : Right (t.length / 32 : Nat) lba n) (hl : t.length = u.length) : (!(decide (Right (t.length / 32 : Nat) lba n ∧ Right (u.length / 32 : Nat) lba n ∧ rdT t lba n = rdT u lba n) == decide (rdT t lba n = rdT u lba n))) = false := by
 have h2 : Right (u.length / 32 : Nat) lba n := by rw [← hl]; exact h
 by_cases hr : rdT t lba n = rdT u lba n
 · rw [decide_eq_true hr, decide_eq_true ⟨h, h2, hr⟩]; rfl
 · rw [decide_eq_false hr, decide_eq_false (fun x => hr x.2.2)]; rfl
theorem same_no {t u : List UInt8} {lba n : Int} (h : ¬ Right (t.length / 32 : Nat) lba n) : (!(decide (Right (t.length / 32 : Nat) lba n ∧ Right (u.length / 32 : Nat) lba n ∧ rdT t lba n = rdT u lba n) == false)) = false := by
 rw [decide_eq_false (fun x => h x.1)]; rfl

theorem DiskPlays_bad (w0 : World) (size : Int) (q : Option Addr) (scap : Nat) (cs : List Dct) (hs : size < 1 ∨ 512 < size) : Ctr Tryz.prog 3 [.int .i64 size, .slice q cs.length scap] [old w0] (fun v Ps => v = .bool true ∧ Ps = [old w0]) := by
 refine Ctr.of_body Tryz.func3 rfl (by kernel_rfl) Tryz.ntmps3 rfl rfl (fun Fr => ?_)
 refine T.seq fun K1 hK1 => ?_
 refine T.region (l := [0]) rfl ?_
 refine RN.a rfl ?_
 refine RN.nil ?_
 refine hK1 _ _ ?_
 refine T.seq fun K2 hK2 => ?_
 refine T.seq fun K3 hK3 => ?_
 refine T.region (l := [0, 1]) rfl ?_
 refine RN.C [] rfl rfl rfl rfl (c_call rfl rfl) (awake24) rfl ?_
 rintro _ _ ⟨rfl, rfl⟩
 refine RN.p rfl (by first | exact (p_not_dec rfl rfl) | exact (p_not rfl rfl)) ?_
 refine RN.nil ?_
 refine hK3 _ _ ?_
 refine T.known 24 rfl (show _ = Value.bool false from rfl) ?_
 refine T.cond_f rfl ?_
 refine T.skip ?_
 refine hK2 _ _ ?_
 refine T.seq fun K4 hK4 => ?_
 refine T.region (l := [0, 1, 2, 3, 4, 5, 6]) rfl ?_
 refine RN.m rfl ?_
 refine RN.C [] rfl rfl rfl rfl (c_call rfl rfl) (New_A size) rfl ?_
 rintro v27 Ps27 hq27
 obtain ⟨rfl, rfl⟩ := NewA_no hq27 (by omega)
 refine RN.m rfl ?_
 refine RN.p rfl (p_extract rfl rfl rfl) ?_
 refine RN.p rfl (p_extract rfl rfl rfl) ?_
 refine RN.a rfl ?_
 refine RN.a rfl ?_
 refine RN.nil ?_
 refine hK4 _ _ ?_
 refine T.seq fun K5 hK5 => ?_
 refine T.seq fun K6 hK6 => ?_
 refine T.region (l := [0, 1, 2, 3, 4, 5, 6, 7, 8, 9, 10]) rfl ?_
 refine RN.m rfl ?_
 refine RN.p rfl (p_neq rfl rfl rfl) ?_
 refine RN.m rfl ?_
 refine RN.known 32 rfl (show _ = Value.bool true from rfl) ?_
 refine RN.no0 rfl ?_
 refine RN.no0 rfl ?_
 refine RN.pt rfl ?_
 refine RN.m rfl ?_
 refine RN.no0 rfl ?_
 refine RN.no0 rfl ?_
 refine RN.no0 rfl ?_
 refine RN.pt rfl ?_
 refine RN.nil ?_
 refine hK6 _ _ ?_
 refine T.cond_t rfl ?_
 refine T.seq fun K7 hK7 => ?_
 refine T.region (l := [0]) rfl ?_
 refine RN.a rfl ?_
 refine RN.nil ?_
 refine hK7 _ _ ?_
 refine T.ret ?_
 refine Post.seq_r ?_
 refine bodyQ_ret [old w0] (RetRun.tmp RetRun.nil) ⟨rfl, rfl⟩ (Ent.refl _)

theorem DiskPlays_skip (w0 : World) (size : Int) (q : Option Addr) (scap : Nat) (cs : List Dct) (hs : 1 ≤ size ∧ size ≤ 512) (hb : 25 < cs.length ∨ 64 < size) : Ctr Tryz.prog 3 [.int .i64 size, .slice q cs.length scap] [old w0] (fun v Ps => v = .bool true ∧ Ps = [old w0]) := by
 refine Ctr.of_body Tryz.func3 rfl (by kernel_rfl) Tryz.ntmps3 rfl rfl (fun Fr => ?_)
 refine T.seq fun K1 hK1 => ?_
 refine T.region (l := [0]) rfl ?_
 refine RN.a rfl ?_
 refine RN.nil ?_
 refine hK1 _ _ ?_
 refine T.seq fun K2 hK2 => ?_
 refine T.seq fun K3 hK3 => ?_
 refine T.region (l := [0, 1]) rfl ?_
 refine RN.C [] rfl rfl rfl rfl (c_call rfl rfl) (awake24) rfl ?_
 rintro _ _ ⟨rfl, rfl⟩
 refine RN.p rfl (by first | exact (p_not_dec rfl rfl) | exact (p_not rfl rfl)) ?_
 refine RN.nil ?_
 refine hK3 _ _ ?_
 refine T.known 24 rfl (show _ = Value.bool false from rfl) ?_
 refine T.cond_f rfl ?_
 refine T.skip ?_
 refine hK2 _ _ ?_
 refine T.seq fun K4 hK4 => ?_
 refine T.region (l := [0, 1, 2, 3, 4, 5, 6]) rfl ?_
 refine RN.m rfl ?_
 refine RN.C [] rfl rfl rfl rfl (c_call rfl rfl) (New_A size) rfl ?_
 rintro v27 Ps27 hq27
 obtain ⟨a, rfl, rfl⟩ := NewA_yes hq27 (by omega)
 refine RN.m rfl ?_
 refine RN.p rfl (p_extract rfl rfl rfl) ?_
 refine RN.p rfl (p_extract rfl rfl rfl) ?_
 refine RN.a rfl ?_
 refine RN.a rfl ?_
 refine RN.nil ?_
 refine hK4 _ _ ?_
 refine T.seq fun K5 hK5 => ?_
 refine T.seq fun K6 hK6 => ?_
 refine T.region (l := [0, 1, 2, 3, 4, 5, 6, 7, 8, 9, 10]) rfl ?_
 refine RN.m rfl ?_
 refine RN.p rfl (p_neq rfl rfl rfl) ?_
 refine RN.m rfl ?_
 refine RN.known 32 rfl (show _ = Value.bool false from rfl) ?_
 refine RN.m rfl ?_
 refine RN.p rfl (p_gtr rfl rfl rfl) ?_
 refine RN.pf rfl ?_
 refine RN.m rfl ?_
 first | refine RN.split_dec 36 rfl (fun h36 => ?_) (fun h36 => ?_) | refine RN.split 36 rfl (fun h36 => ?_) (fun h36 => ?_)
 ·
  refine RN.no0 rfl ?_
  refine RN.no0 rfl ?_
  refine RN.no0 rfl ?_
  refine RN.pt rfl ?_
  refine RN.nil ?_
  refine hK6 _ _ ?_
  refine T.cond_t rfl ?_
  refine T.seq fun K7 hK7 => ?_
  refine T.region (l := [0]) rfl ?_
  refine RN.a rfl ?_
  refine RN.nil ?_
  refine hK7 _ _ ?_
  refine T.ret ?_
  refine Post.seq_r ?_
  refine bodyQ_ret [old w0] (RetRun.tmp RetRun.nil) ⟨rfl, rfl⟩ (Ent.pull_drop (is := [1, 1]) rfl)
 ·
  refine RN.m rfl ?_
  refine RN.p rfl (p_len rfl Tryz.underlying22 rfl) ?_
  refine RN.p rfl (p_gtr rfl rfl rfl) ?_
  refine RN.pf rfl ?_
  refine RN.nil ?_
  refine hK6 _ _ ?_
  first | refine T.cond_dec rfl (fun h40 => ?_) (fun h40 => ?_) | refine T.cond rfl (fun h40 => ?_) (fun h40 => ?_)
  ·
   refine T.seq fun K8 hK8 => ?_
   refine T.region (l := [0]) rfl ?_
   refine RN.a rfl ?_
   refine RN.nil ?_
   refine hK8 _ _ ?_
   refine T.ret ?_
   refine Post.seq_r ?_
   refine bodyQ_ret [old w0] (RetRun.tmp RetRun.nil) ⟨rfl, rfl⟩ (Ent.pull_drop (is := [1, 1]) rfl)
  ·
   exfalso; omega --done

end Go.Proofs.YtlbebaipmgjdbaaGreat
