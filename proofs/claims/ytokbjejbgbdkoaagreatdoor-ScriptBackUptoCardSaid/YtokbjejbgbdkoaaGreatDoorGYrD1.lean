/-
 The reference of scripts: walked.
-/
import Derived.Test.YtokbjejbgbdkoaaGreatDoorGYrC4
import Derived.Test.YtokbjejbgbdkoaaGreatDoorGModelC
set_option linter.unusedVariables false
set_option linter.unusedSimpArgs false
namespace Go.Proofs.YtokbjejbgbdkoaaGreatDoor
open Go Go.Sl Go.Proofs
set_option maxRecDepth 20000
open Go.Mo Go.Proofs Go.Shelf Go.RowKit
end Go.Proofs.YtokbjejbgbdkoaaGreatDoor
namespace Go.Proofs.YtokbjejbgbdkoaaGreatDoor
open Go Go.Sl Go.Proofs
set_option maxRecDepth 20000
open Go.Mo Go.Proofs Go.Shelf Go.RowKit
/-- A kind's letter as a value. -/
def kC (k : Nat) : Value := .int .u8 (k : Int)
/-- A command of the reference's, cell by cell. -/
def rcC (c : Cm) : List Value := [kC c.kind, iC c.a, iC c.b, strV c.data]
theorem rc_one {k : Nat} {a b : Int} {s : List UInt8} : ∀ u ∈ [kC k, iC a, iC b, strV s], u.oneCell' = true := fun u hu => by
 simp only [List.mem_cons, List.not_mem_nil, or_false] at hu
 rcases hu with rfl | rfl | rfl | rfl <;> rfl

end Go.Proofs.YtokbjejbgbdkoaaGreatDoor
namespace Go.Proofs.YtokbjejbgbdkoaaGreatDoor
open Go Go.Sl Go.Proofs
set_option maxRecDepth 20000
open Go.Mo Go.Proofs Go.Shelf Go.RowKit
end Go.Proofs.YtokbjejbgbdkoaaGreatDoor
namespace Go.Proofs.YtokbjejbgbdkoaaGreatDoor
open Go Go.Sl Go.Proofs
set_option maxRecDepth 20000
open Go.Mo Go.Proofs Go.Shelf Go.RowKit
def mu (n : Int) : Nat := 2 * n.natAbs + (if n < 0 then 1 else 0)
theorem mu_neg (m : Nat) : mu (-(m : Int)) ≤ 2 * m + 1 ∧ 2 * m ≤ mu (-(m : Int)) := by unfold mu; split <;> omega
theorem mu_negp {m : Nat} (h : 0 < m) : mu (-(m : Int)) = 2 * m + 1 := by unfold mu; rw [if_pos (by omega)]; omega
theorem mu_pos (m : Nat) : mu (m : Int) = 2 * m := by unfold mu; rw [if_neg (by omega)]; omega

theorem Num20_walk (n : Int) (hn : -9223372036854775808 ≤ n ∧ n ≤ 9223372036854775807) (ih : ∀ m : Int, mu m < mu n → -9223372036854775808 ≤ m → m ≤ 9223372036854775807 → Ctr Tryz.prog 18 [.int .i64 m] [] (fun w Ps => w = strV (Lib.itoa m) ∧ Ps = [])) : Ctr Tryz.prog 18 [.int .i64 n] [] (fun w Ps => w = strV (Lib.itoa n) ∧ Ps = []) := by
 refine Ctr.of_body Tryz.func18 rfl (by kernel_rfl) Tryz.ntmps18 rfl rfl (fun Fr => ?_)
 refine T.seq fun K1 hK1 => ?_
 refine T.region (l := [0]) rfl ?_
 refine RN.a rfl ?_
 refine RN.nil ?_
 refine hK1 _ _ ?_
 refine T.seq fun K2 hK2 => ?_
 refine T.seq fun K3 hK3 => ?_
 refine T.region (l := [0, 1]) rfl ?_
 refine RN.m rfl ?_
 refine RN.p rfl (p_lss rfl rfl rfl) ?_
 refine RN.nil ?_
 refine hK3 _ _ ?_
 first | refine T.cond_dec rfl (fun h4 => ?_) (fun h4 => ?_) | refine T.cond rfl (fun h4 => ?_) (fun h4 => ?_)
 ·
  obtain ⟨m, hm⟩ := Int.eq_ofNat_of_zero_le (show 0 ≤ -n by omega)
  obtain rfl : n = -(m : Int) := by omega
  have hmu := mu_negp (m := m) (by omega)
  have hmod := Nat.mod_lt m (show 10 > 0 by omega)
  have hl1 := dd_len 19 (m / 10) (by omega)
  have hl2 := dd_len 19 (m % 10) (by omega)
  refine T.seq fun K4 hK4 => ?_
  refine T.region (l := [0, 1, 2, 3, 4, 5, 6, 7, 8]) rfl ?_
  refine RN.m rfl ?_
  refine RN.p rfl (p_quo_w rfl rfl rfl (by decide)) ?_
  rw [show IntKind.i64.wrap ((-(m : Int)).tdiv 10) = -((m / 10 : Nat) : Int) from by rw [tdiv_neg, wrap64_in (by omega) (by omega)]]
  refine RN.C [] rfl rfl rfl rfl (c_call rfl rfl) (ih (-((m / 10 : Nat) : Int)) (by have := mu_neg (m / 10); omega) (by omega) (by omega)) rfl ?_
  rintro _ _ ⟨rfl, rfl⟩
  refine RN.m rfl ?_
  refine RN.p rfl (p_rem_w rfl rfl rfl (by decide)) ?_
  rw [tmod_neg]
  refine RN.p rfl (p_neg rfl rfl) ?_
  rw [show IntKind.i64.wrap (0 - -((m % 10 : Nat) : Int)) = ((m % 10 : Nat) : Int) from by rw [wrap64_in (by omega) (by omega)]; omega]
  refine RN.C [] rfl rfl rfl rfl (c_call rfl rfl) (ih ((m % 10 : Nat) : Int) (by rw [mu_pos]; omega) (by omega) (by omega)) rfl ?_
  rintro _ _ ⟨rfl, rfl⟩
  refine RN.p rfl (p_sadd rfl rfl rfl (by rw [itoa_neg (by omega), itoa_pos, List.length_cons]; omega)) ?_
  refine RN.a rfl ?_
  refine RN.nil ?_
  refine hK4 _ _ ?_
  refine T.ret ?_
  refine Post.seq_r ?_
  refine bodyQ_ret [] (RetRun.tmp RetRun.nil) ⟨congrArg strV (num_neg (by omega)), rfl⟩ (Ent.refl _)
 ·
  refine T.skip ?_
  refine hK2 _ _ ?_
  refine T.seq fun K5 hK5 => ?_
  refine T.seq fun K6 hK6 => ?_
  refine T.region (l := [0, 1]) rfl ?_
  refine RN.m rfl ?_
  refine RN.p rfl (p_lss rfl rfl rfl) ?_
  refine RN.nil ?_
  refine hK6 _ _ ?_
  first | refine T.cond_dec rfl (fun h14 => ?_) (fun h14 => ?_) | refine T.cond rfl (fun h14 => ?_) (fun h14 => ?_)
  ·
   obtain ⟨m, hm⟩ := Int.eq_ofNat_of_zero_le (show 0 ≤ -n by omega)
   obtain rfl : n = -(m : Int) := by omega
   have hmu := mu_negp (m := m) (by omega)
   have hl1 := dd_len 19 m (by omega)
   refine T.seq fun K7 hK7 => ?_
   refine T.region (l := [0, 1, 2, 3, 4]) rfl ?_
   refine RN.m rfl ?_
   refine RN.p rfl (p_neg rfl rfl) ?_
   rw [show IntKind.i64.wrap (0 - -(m : Int)) = (m : Int) from by rw [wrap64_in (by omega) (by omega)]; omega]
   refine RN.C [] rfl rfl rfl rfl (c_call rfl rfl) (ih (m : Int) (by rw [mu_pos]; omega) (by omega) (by omega)) rfl ?_
   rintro _ _ ⟨rfl, rfl⟩
   refine RN.p rfl (p_sadd rfl rfl rfl (by rw [itoa_pos]; simp only [List.length_cons, List.length_nil]; omega)) ?_
   refine RN.a rfl ?_
   refine RN.nil ?_
   refine hK7 _ _ ?_
   refine T.ret ?_
   refine Post.seq_r ?_
   refine bodyQ_ret [] (RetRun.tmp RetRun.nil) ⟨congrArg strV (num_neg1 (by omega)), rfl⟩ (Ent.refl _)
  ·
   obtain ⟨m, rfl⟩ := Int.eq_ofNat_of_zero_le (show 0 ≤ n by omega)
   have hmu := mu_pos m
   have hmod := Nat.mod_lt m (show 10 > 0 by omega)
   have hl1 := dd_len 19 (m / 10) (by omega)
   refine T.skip ?_
   refine hK5 _ _ ?_
   refine T.seq fun K8 hK8 => ?_
   refine T.seq fun K9 hK9 => ?_
   refine T.region (l := [0, 1]) rfl ?_
   refine RN.m rfl ?_
   refine RN.p rfl (p_gtr rfl rfl rfl) ?_
   refine RN.nil ?_
   refine hK9 _ _ ?_
   first | refine T.cond_dec rfl (fun h20 => ?_) (fun h20 => ?_) | refine T.cond rfl (fun h20 => ?_) (fun h20 => ?_)
   ·
    refine T.seq fun K10 hK10 => ?_
    refine T.regionD (z := 2) (Bs := _) (l := [(0, .pure), (1, .pure), (3, .pure), (4, .pure), (5, .pure), (6, .pure), (7, .pure), (8, .pure), (2, .eff), (9, .pure), (10, .pure)]) mixed (by kernel_rfl) (Ent.refl _) ?_
    refine RD.n rfl (p_move rfl (by conv => lhs; whnf)) ?_
    refine RD.n rfl (by first | exact (p_quoN (b := 10) rfl rfl rfl (by omega)) | exact (p_quo rfl rfl rfl (by omega))) ?_
    refine RD.n rfl (p_move rfl (by conv => lhs; whnf)) ?_
    refine RD.n rfl (by first | exact (p_remN (b := 10) rfl rfl rfl (by omega)) | exact (p_rem rfl rfl rfl (by omega))) ?_
    refine RD.n rfl (p_move rfl (by conv => lhs; whnf)) ?_
    refine RD.n rfl (by first | exact (p_remN (b := 10) rfl rfl rfl (by omega)) | exact (p_rem rfl rfl rfl (by omega))) ?_
    refine RD.n rfl (by first | exact (p_addN (b := 1) rfl rfl rfl (by omega)) | exact (p_add rfl rfl rfl (by omega))) ?_
    refine RD.n rfl (p_sliceN_s (l := m % 10) (h := m % 10 + 1) rfl Tryz.underlying9 rfl rfl rfl ⟨by omega, by show _ ≤ 10; omega⟩) ?_
    refine RD.C [] rfl rfl rfl rfl (c_call rfl rfl) (ih ((m / 10 : Nat) : Int) (by rw [mu_pos]; omega) (by omega) (by omega)) rfl (fun _ _ _ => .inr rfl) ?_
    rintro _ _ ⟨rfl, rfl⟩
    refine RD.n rfl (p_sadd rfl rfl rfl (by rw [itoa_pos]; show _ + ((dcL.take (m % 10 + 1)).drop (m % 10)).length ≤ _; rw [dc_at _ hmod]; simp only [List.length_cons, List.length_nil]; omega)) ?_
    refine RD.n rfl (p_assign rfl (by conv => lhs; whnf)) ?_
    refine RD.nil ?_
    refine hK10 _ _ ?_
    refine T.ret ?_
    refine Post.seq_r ?_
    refine bodyQ_ret [] (RetRun.tmp RetRun.nil) ⟨congrArg strV (num_big (by omega)), rfl⟩ (Ent.refl _)
   ·
    refine T.skip ?_
    refine hK8 _ _ ?_
    refine T.seq fun K11 hK11 => ?_
    refine T.region (l := [0, 1, 2, 3, 4]) rfl ?_
    refine RN.m rfl ?_
    refine RN.m rfl ?_
    refine RN.p rfl (by first | exact (p_addN (b := 1) rfl rfl rfl (by omega)) | exact (p_add rfl rfl rfl (by omega))) ?_
    refine RN.p rfl (p_sliceN_s (l := m) (h := m + 1) rfl Tryz.underlying9 rfl rfl rfl ⟨by omega, by show _ ≤ 10; omega⟩) ?_
    refine RN.a rfl ?_
    refine RN.nil ?_
    refine hK11 _ _ ?_
    refine T.ret ?_
    refine bodyQ_ret [] (RetRun.tmp RetRun.nil) ⟨congrArg strV (num_small (by omega)), rfl⟩ (Ent.refl _)

theorem Num20_spec : ∀ (k : Nat) (n : Int), mu n ≤ k → -9223372036854775808 ≤ n → n ≤ 9223372036854775807 → Ctr Tryz.prog 18 [.int .i64 n] [] (fun w Ps => w = strV (Lib.itoa n) ∧ Ps = []) := by
 intro k
 induction k using Nat.strongRecOn with
 | _ k ih => exact fun n hk h1 h2 => Num20_walk n ⟨h1, h2⟩ (fun m hm g1 g2 => ih (mu m) (by omega) m (Nat.le_refl _) g1 g2)
theorem Num_W {n : Int} (h : -9223372036854775808 ≤ n ∧ n ≤ 9223372036854775807) : Ctr Tryz.prog 18 [.int .i64 n] [] (fun w Ps => w = strV (Lib.itoa n) ∧ Ps = []) := Num20_spec _ n (Nat.le_refl _) h.1 h.2
theorem told_step {w s : List UInt8} {xs : List Int} {i : Nat} (hlt : i < xs.length) (h : s = w ++ ((xs.take i).map nT).flatten) : s ++ ([32] ++ Lib.itoa xs[i]) = w ++ ((xs.take (i + 1)).map nT).flatten := by
 rw [h, List.take_succ_eq_append_getElem hlt, List.map_append, List.flatten_append]
 simp [nT]
theorem below_grow {w w' : World} {k : Nat} {os : Array Obj} (h : w' = Go.Sort.grow (w.drewN k) os) : Below w.heap.size w w' := by
 subst h
 refine ⟨rfl, rfl, rfl, ?_, fun i hi => ?_⟩
 ·
  show w.heap.size ≤ (w.heap ++ os).size
  rw [Array.size_append]; omega
 ·
  show (w.heap ++ os)[i]? = _
  rw [Array.getElem?_append_left hi]
theorem Itoa_spec (A : Assn) (hB : Glob2 Tryz.prog 0 A) (n : Int) (hn : -999999999 ≤ n ∧ n ≤ 999999999) : Ctr Tryz.prog 88 [.int .i64 n] [A] (fun w Ps => w = strV (Lib.itoa n) ∧ Ps = [A]) :=
 Ctr.ofBelow ⟨_, Tryz.func88, by kernel_rfl, by kernel_rfl⟩ fun W0 Fr w hs => (Any.strconv_Itoa laysM171 n (by omega) (by omega) w (hB.pow W0 [Fr] w hs)).mono fun e w' ⟨he, k, os, hw⟩ => ⟨he, below_grow hw⟩
theorem Told20_spec (A : Assn) (hB : Glob2 Tryz.prog 0 A) (w : List UInt8) (b c : Nat) (xs : List Int) (hx : ∀ v ∈ xs, -999999999 ≤ v ∧ v ≤ 999999999) (hw : w.length ≤ 1000) (hl : xs.length ≤ 2) : Ctr Tryz.prog 121 [strV w, slc b 0 xs.length c] [row b 3 (xs.map iC), A] (fun u Ps => u = strV (w ++ (xs.map nT).flatten) ∧ Ps = [A]) := by
 refine Ctr.of_body Tryz.func121 rfl (by kernel_rfl) Tryz.ntmps121 rfl rfl (fun Fr => ?_)
 refine T.seq fun K1 hK1 => ?_
 refine T.region (l := [0]) rfl ?_
 refine RN.a rfl ?_
 refine RN.nil ?_
 refine hK1 _ _ ?_
 refine T.seq fun K2 hK2 => ?_
 refine T.seq fun K3 hK3 => ?_
 refine T.region (l := [0, 1, 2]) rfl ?_
 refine RN.m rfl ?_
 refine RN.p rfl (p_len rfl Tryz.underlying77 rfl) ?_
 refine RN.m rfl ?_
 refine RN.nil ?_
 refine hK3 _ _ ?_
 refine T.block ?_
 refine T.loop (G := Nat × List UInt8) (fun ⟨i, s⟩ => i ≤ xs.length ∧ s = w ++ ((xs.take i).map nT).flatten ∧ s.length ≤ w.length + 11 * i) (fun ⟨i, s⟩ => [(0, strV s), (7, slc b 0 xs.length c), (8, intV xs.length), (9, intV i)]) (fun ⟨i, s⟩ => [row b 3 (xs.map iC), A, Fr]) (fun ⟨i, s⟩ => xs.length - i) (0, w) ⟨Nat.zero_le _, by simp, by simp⟩ (LiveIs.cons rfl (LiveIs.cons rfl (LiveIs.cons rfl (LiveIs.cons rfl LiveIs.nil)))) (Ent.refl _) ?_
 rintro ⟨i, s⟩ e4 ⟨hil0, hs, hsl⟩
 dsimp only
 refine T.seq fun K5 hK5 => ?_
 refine T.region (l := [0]) rfl ?_
 refine RN.p rfl (p_lss rfl rfl rfl) ?_
 refine RN.nil ?_
 refine hK5 _ _ ?_
 refine T.seq fun K6 hK6 => ?_
 first | refine T.cond_dec rfl (fun h10 => ?_) (fun h10 => ?_) | refine T.cond rfl (fun h10 => ?_) (fun h10 => ?_)
 ·
  have hlt : i < xs.length := by omega
  have hxi := hx _ (List.getElem_mem hlt)
  have hil := itoa_len hxi
  refine T.skip ?_
  refine hK6 _ _ ?_
  refine T.seq fun K7 hK7 => ?_
  refine T.block ?_
  refine T.seq fun K8 hK8 => ?_
  refine T.region (l := [0, 1, 2]) rfl ?_
  refine RN.p rfl (by first | exact (p_indexAddr1N rfl Tryz.underlying77 ts_3 rfl rfl (by omega)) | exact (p_indexAddr1 rfl Tryz.underlying77 ts_3 rfl rfl (by omega))) ?_
  refine RN.u rfl (q_load (v := iC xs[i]) rfl sc_3 rfl (i := 0) rfl (by rw [Nat.zero_add, List.getElem?_map, List.getElem?_eq_getElem hlt]; rfl)) ?_
  refine RN.a rfl ?_
  refine RN.nil ?_
  refine hK8 _ _ ?_
  refine T.region (l := [0, 1, 2, 3, 4, 5]) rfl ?_
  refine RN.m rfl ?_
  refine RN.m rfl ?_
  refine RN.C [1] rfl rfl rfl rfl (c_call rfl rfl) (Itoa_spec A hB xs[i] hxi) rfl ?_
  rintro _ _ ⟨rfl, rfl⟩
  refine RN.p rfl (p_sadd rfl rfl rfl (by simp only [List.length_cons, List.length_nil]; omega)) ?_
  refine RN.p rfl (p_sadd rfl rfl rfl (by simp only [List.length_append, List.length_cons, List.length_nil]; omega)) ?_
  refine RN.a rfl ?_
  refine RN.nil ?_
  refine hK7 _ _ ?_
  refine T.region (l := [0, 1]) rfl ?_
  refine RN.p rfl (by first | exact (p_addN (b := 1) rfl rfl rfl (by omega)) | exact (p_add rfl rfl rfl (by omega))) ?_
  refine RN.m rfl ?_
  refine RN.nil ?_
  refine ⟨(i + 1, s ++ ([32] ++ Lib.itoa xs[i])), ⟨hlt, told_step hlt hs, by simp only [List.length_append, List.length_cons, List.length_nil]; omega⟩, (by show _ - (i + 1) < _ - i; omega), (LiveIs.cons rfl (LiveIs.cons rfl (LiveIs.cons rfl (LiveIs.cons rfl LiveIs.nil)))), (Ent.pull_drop (is := [1, 0, 0]) rfl)⟩
 ·
  have hie : xs.length ≤ i := by omega
  refine T.exit ?_
  refine Post.seq_x ?_
  refine Post.seq_x ?_
  refine Post.block_hit ?_
  refine hK2 _ _ ?_
  refine T.seq fun K9 hK9 => ?_
  refine T.region (l := [0, 1]) rfl ?_
  refine RN.m rfl ?_
  refine RN.a rfl ?_
  refine RN.nil ?_
  refine hK9 _ _ ?_
  refine T.ret ?_
  refine bodyQ_ret [A] (RetRun.tmp RetRun.nil) ⟨congrArg strV (by rw [hs, List.take_of_length_le hie]), rfl⟩ (Ent.pull_drop (is := [1, 1]) rfl)

end Go.Proofs.YtokbjejbgbdkoaaGreatDoor
