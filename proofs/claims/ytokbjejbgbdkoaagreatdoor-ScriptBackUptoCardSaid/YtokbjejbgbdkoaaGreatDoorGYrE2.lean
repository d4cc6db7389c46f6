/-
 Commands told: walked.
-/
import Derived.Test.YtokbjejbgbdkoaaGreatDoorGYrD1
import Derived.Test.YtokbjejbgbdkoaaGreatDoorGSl23
import Derived.Test.YtokbjejbgbdkoaaGreatDoorGSl12
set_option linter.unusedVariables false
set_option linter.unusedSimpArgs false
namespace Go.Proofs.YtokbjejbgbdkoaaGreatDoor
open Go Go.Sl Go.Proofs
set_option maxRecDepth 20000
open Go.Mo Go.Proofs Go.Shelf Go.RowKit
theorem told_two (w : List UInt8) (a b : Int) : w ++ (([a, b] : List Int).map nT).flatten = w ++ nT a ++ nT b := by simp
theorem told_one (w : List UInt8) (a : Int) : w ++ (([a] : List Int).map nT).flatten = w ++ nT a := by simp
theorem two_bd {a b : Int} (ha : -999999999 ≤ a ∧ a ≤ 999999999) (hb : -999999999 ≤ b ∧ b ≤ 999999999) : ∀ v ∈ [a, b], -999999999 ≤ v ∧ v ≤ 999999999 := fun v hv => by
 simp only [List.mem_cons, List.not_mem_nil, or_false] at hv
 rcases hv with rfl | rfl
 · exact ha
 · exact hb
theorem one_bd {a : Int} (ha : -999999999 ≤ a ∧ a ≤ 999999999) : ∀ v ∈ [a], -999999999 ≤ v ∧ v ≤ 999999999 := fun v hv => by rw [List.mem_singleton.1 hv]; exact ha
theorem nT_len {a : Int} (ha : -999999999 ≤ a ∧ a ≤ 999999999) : (nT a).length ≤ 11 := by have := itoa_len ha; unfold nT; rw [List.length_cons]; omega
theorem Qt_len (s : List UInt8) : (Qt s).length ≤ 6 * s.length + 2 := by
 have := qI_len _ s (Nat.le_refl _)
 unfold Qt
 simp only [List.length_cons, List.length_append, List.length_nil]
 omega

theorem TRead_spec (A : Assn) (hB : Glob2 Tryz.prog 0 A) (a b : Int) (ha : -999999999 ≤ a ∧ a ≤ 999999999) (hb : -999999999 ≤ b ∧ b ≤ 999999999) : Ctr Tryz.prog 122 [.agg #[iC a, iC b]] [A] (fun w Ps => w = strV (wRead ++ nT a ++ nT b) ∧ Ps = [A]) := by
 refine Ctr.of_body Tryz.func122 rfl (by kernel_rfl) Tryz.ntmps122 rfl rfl (fun Fr => ?_)
 refine T.seq fun K1 hK1 => ?_
 refine T.region (l := [0, 1]) rfl ?_
 refine RN.E rfl rfl rfl rfl (e_box (vs := [iC a, iC b]) rfl rfl rfl) ?_
 rintro _ _ ⟨b1, rfl, rfl⟩
 refine RN.a rfl ?_
 refine RN.nil ?_
 refine hK1 _ _ ?_
 refine T.seq fun K2 hK2 => ?_
 refine T.region (l := [0, 1, 2, 3, 4, 5, 6]) rfl ?_
 refine RN.p rfl (p_fieldAddr rfl fa_51_0 rfl) ?_
 refine RN.u rfl (q_load rfl sc_3 rfl (i := 0) rfl rfl) ?_
 refine RN.p rfl (p_fieldAddr rfl fa_51_1 rfl) ?_
 refine RN.u rfl (q_load rfl sc_3 rfl (i := 0) rfl rfl) ?_
 refine RN.E rfl rfl rfl rfl (e_buildSlice rfl Tryz.underlying77 ti_3 rfl (by decide) rfl (by simp)) ?_
 rintro _ _ ⟨b7, rfl, rfl⟩
 refine RN.C [0, 1] rfl rfl rfl rfl (c_call rfl rfl) (Told20_spec A hB wRead b7 2 [a, b] (two_bd ha hb) (by decide) (by simp)) rfl ?_
 rintro _ _ ⟨rfl, rfl⟩
 rw [told_two]
 refine RN.a rfl ?_
 refine RN.nil ?_
 refine hK2 _ _ ?_
 refine T.ret ?_
 refine bodyQ_ret [A] (RetRun.tmp RetRun.nil) ⟨rfl, rfl⟩ (Ent.pull_drop (is := [0, 1]) rfl)

theorem TTrim_spec (A : Assn) (hB : Glob2 Tryz.prog 0 A) (a b : Int) (ha : -999999999 ≤ a ∧ a ≤ 999999999) (hb : -999999999 ≤ b ∧ b ≤ 999999999) : Ctr Tryz.prog 123 [.agg #[iC a, iC b]] [A] (fun w Ps => w = strV (wTrim ++ nT a ++ nT b) ∧ Ps = [A]) := by
 refine Ctr.of_body Tryz.func123 rfl (by kernel_rfl) Tryz.ntmps123 rfl rfl (fun Fr => ?_)
 refine T.seq fun K1 hK1 => ?_
 refine T.region (l := [0, 1]) rfl ?_
 refine RN.E rfl rfl rfl rfl (e_box (vs := [iC a, iC b]) rfl rfl rfl) ?_
 rintro _ _ ⟨b1, rfl, rfl⟩
 refine RN.a rfl ?_
 refine RN.nil ?_
 refine hK1 _ _ ?_
 refine T.seq fun K2 hK2 => ?_
 refine T.region (l := [0, 1, 2, 3, 4, 5, 6]) rfl ?_
 refine RN.p rfl (p_fieldAddr rfl fa_52_0 rfl) ?_
 refine RN.u rfl (q_load rfl sc_3 rfl (i := 0) rfl rfl) ?_
 refine RN.p rfl (p_fieldAddr rfl fa_52_1 rfl) ?_
 refine RN.u rfl (q_load rfl sc_3 rfl (i := 0) rfl rfl) ?_
 refine RN.E rfl rfl rfl rfl (e_buildSlice rfl Tryz.underlying77 ti_3 rfl (by decide) rfl (by simp)) ?_
 rintro _ _ ⟨b7, rfl, rfl⟩
 refine RN.C [0, 1] rfl rfl rfl rfl (c_call rfl rfl) (Told20_spec A hB wTrim b7 2 [a, b] (two_bd ha hb) (by decide) (by simp)) rfl ?_
 rintro _ _ ⟨rfl, rfl⟩
 rw [told_two]
 refine RN.a rfl ?_
 refine RN.nil ?_
 refine hK2 _ _ ?_
 refine T.ret ?_
 refine bodyQ_ret [A] (RetRun.tmp RetRun.nil) ⟨rfl, rfl⟩ (Ent.pull_drop (is := [0, 1]) rfl)

theorem TCut_spec (A : Assn) (hB : Glob2 Tryz.prog 0 A) (a : Int) (ha : -999999999 ≤ a ∧ a ≤ 999999999) : Ctr Tryz.prog 124 [.agg #[iC a]] [A] (fun w Ps => w = strV (wCut ++ nT a) ∧ Ps = [A]) := by
 refine Ctr.of_body Tryz.func124 rfl (by kernel_rfl) Tryz.ntmps124 rfl rfl (fun Fr => ?_)
 refine T.seq fun K1 hK1 => ?_
 refine T.region (l := [0, 1]) rfl ?_
 refine RN.E rfl rfl rfl rfl (e_box (vs := [iC a]) rfl rfl rfl) ?_
 rintro _ _ ⟨b1, rfl, rfl⟩
 refine RN.a rfl ?_
 refine RN.nil ?_
 refine hK1 _ _ ?_
 refine T.seq fun K2 hK2 => ?_
 refine T.region (l := [0, 1, 2, 3, 4]) rfl ?_
 refine RN.p rfl (p_fieldAddr rfl fa_54_0 rfl) ?_
 refine RN.u rfl (q_load rfl sc_3 rfl (i := 0) rfl rfl) ?_
 refine RN.E rfl rfl rfl rfl (e_buildSlice1 rfl Tryz.underlying77 ti_3 rfl (by conv => lhs; whnf) rfl) ?_
 rintro _ _ ⟨b5, rfl, rfl⟩
 refine RN.C [0, 1] rfl rfl rfl rfl (c_call rfl rfl) (Told20_spec A hB wCut b5 1 [a] (one_bd ha) (by decide) (by simp)) rfl ?_
 rintro _ _ ⟨rfl, rfl⟩
 rw [told_one]
 refine RN.a rfl ?_
 refine RN.nil ?_
 refine hK2 _ _ ?_
 refine T.ret ?_
 refine bodyQ_ret [A] (RetRun.tmp RetRun.nil) ⟨rfl, rfl⟩ (Ent.pull_drop (is := [0, 1]) rfl)

theorem TFail_spec (A : Assn) (hB : Glob2 Tryz.prog 0 A) (a : Int) (ha : -999999999 ≤ a ∧ a ≤ 999999999) : Ctr Tryz.prog 125 [.agg #[iC a]] [A] (fun w Ps => w = strV (wFail ++ nT a) ∧ Ps = [A]) := by
 refine Ctr.of_body Tryz.func125 rfl (by kernel_rfl) Tryz.ntmps125 rfl rfl (fun Fr => ?_)
 refine T.seq fun K1 hK1 => ?_
 refine T.region (l := [0, 1]) rfl ?_
 refine RN.E rfl rfl rfl rfl (e_box (vs := [iC a]) rfl rfl rfl) ?_
 rintro _ _ ⟨b1, rfl, rfl⟩
 refine RN.a rfl ?_
 refine RN.nil ?_
 refine hK1 _ _ ?_
 refine T.seq fun K2 hK2 => ?_
 refine T.region (l := [0, 1, 2, 3, 4]) rfl ?_
 refine RN.p rfl (p_fieldAddr rfl fa_55_0 rfl) ?_
 refine RN.u rfl (q_load rfl sc_3 rfl (i := 0) rfl rfl) ?_
 refine RN.E rfl rfl rfl rfl (e_buildSlice1 rfl Tryz.underlying77 ti_3 rfl (by conv => lhs; whnf) rfl) ?_
 rintro _ _ ⟨b5, rfl, rfl⟩
 refine RN.C [0, 1] rfl rfl rfl rfl (c_call rfl rfl) (Told20_spec A hB wFail b5 1 [a] (one_bd ha) (by decide) (by simp)) rfl ?_
 rintro _ _ ⟨rfl, rfl⟩
 rw [told_one]
 refine RN.a rfl ?_
 refine RN.nil ?_
 refine hK2 _ _ ?_
 refine T.ret ?_
 refine bodyQ_ret [A] (RetRun.tmp RetRun.nil) ⟨rfl, rfl⟩ (Ent.pull_drop (is := [0, 1]) rfl)

theorem TWrite_spec (A : Assn) (hA : Glob 1 2 A) (hB : Glob2 Tryz.prog 0 A) (a b : Int) (s : List UInt8) (ha : -999999999 ≤ a ∧ a ≤ 999999999) (hb : -999999999 ≤ b ∧ b ≤ 999999999) (hs : s.length ≤ 100000000) : Ctr Tryz.prog 120 [.agg #[iC a, iC b, strV s]] [A] (fun w Ps => w = strV (wWrite ++ nT a ++ nT b ++ (32 :: Qt s)) ∧ Ps = [A]) := by
 refine Ctr.of_body Tryz.func120 rfl (by kernel_rfl) Tryz.ntmps120 rfl rfl (fun Fr => ?_)
 have hq := Qt_len s
 have h1 := nT_len ha
 have h2 := nT_len hb
 refine T.seq fun K1 hK1 => ?_
 refine T.region (l := [0, 1]) rfl ?_
 refine RN.E rfl rfl rfl rfl (e_box (vs := [iC a, iC b, strV s]) rfl rfl rfl) ?_
 rintro _ _ ⟨b1, rfl, rfl⟩
 refine RN.a rfl ?_
 refine RN.nil ?_
 refine hK1 _ _ ?_
 refine T.seq fun K2 hK2 => ?_
 refine T.regionD (z := 12) (Bs := [row b1 46 [iC a, iC b, strV s]]) (l := [(0, .pure), (1, .load), (2, .pure), (3, .load), (7, .pure), (8, .load), (4, .eff), (5, .eff), (6, .pure), (9, .eff), (10, .pure), (11, .pure)]) mixed (by kernel_rfl) (by first | exact Ent.refl _ | exact Ent.pull_drop (is := [0]) rfl | exact Ent.pull_drop (is := [1]) rfl | exact Ent.pull_drop (is := [2]) rfl | exact Ent.pull_drop (is := [3]) rfl | exact Ent.pull_drop (is := [4]) rfl | exact Ent.pull_drop (is := [5]) rfl | exact Ent.pull_drop (is := [6]) rfl | exact Ent.pull_drop (is := [7]) rfl) ?_
 refine RD.n rfl (p_fieldAddr rfl fa_46_0 rfl) ?_
 refine RD.qq rfl rfl rfl rfl (by first | exact (q_load rfl sc_3 rfl (i := 0) rfl rfl) | exact (q_load rfl sc_3 rfl (i := 1) rfl rfl) | exact (q_load rfl sc_3 rfl (i := 2) rfl rfl) | exact (q_load rfl sc_3 rfl (i := 3) rfl rfl) | exact (q_load rfl sc_3 rfl (i := 4) rfl rfl)) (by first | exact Ent.refl _ | exact Ent.pull_drop (is := [0]) rfl | exact Ent.pull_drop (is := [1]) rfl | exact Ent.pull_drop (is := [2]) rfl | exact Ent.pull_drop (is := [3]) rfl | exact Ent.pull_drop (is := [4]) rfl | exact Ent.pull_drop (is := [5]) rfl | exact Ent.pull_drop (is := [6]) rfl | exact Ent.pull_drop (is := [7]) rfl) ?_
 refine RD.n rfl (p_fieldAddr rfl fa_46_1 rfl) ?_
 refine RD.qq rfl rfl rfl rfl (by first | exact (q_load rfl sc_3 rfl (i := 0) rfl rfl) | exact (q_load rfl sc_3 rfl (i := 1) rfl rfl) | exact (q_load rfl sc_3 rfl (i := 2) rfl rfl) | exact (q_load rfl sc_3 rfl (i := 3) rfl rfl) | exact (q_load rfl sc_3 rfl (i := 4) rfl rfl)) (by first | exact Ent.refl _ | exact Ent.pull_drop (is := [0]) rfl | exact Ent.pull_drop (is := [1]) rfl | exact Ent.pull_drop (is := [2]) rfl | exact Ent.pull_drop (is := [3]) rfl | exact Ent.pull_drop (is := [4]) rfl | exact Ent.pull_drop (is := [5]) rfl | exact Ent.pull_drop (is := [6]) rfl | exact Ent.pull_drop (is := [7]) rfl) ?_
 refine RD.n rfl (p_fieldAddr rfl fa_46_2 rfl) ?_
 refine RD.qq rfl rfl rfl rfl (by first | exact (q_load rfl sc_9 rfl (i := 0) rfl rfl) | exact (q_load rfl sc_9 rfl (i := 1) rfl rfl) | exact (q_load rfl sc_9 rfl (i := 2) rfl rfl) | exact (q_load rfl sc_9 rfl (i := 3) rfl rfl) | exact (q_load rfl sc_9 rfl (i := 4) rfl rfl)) (by first | exact Ent.refl _ | exact Ent.pull_drop (is := [0]) rfl | exact Ent.pull_drop (is := [1]) rfl | exact Ent.pull_drop (is := [2]) rfl | exact Ent.pull_drop (is := [3]) rfl | exact Ent.pull_drop (is := [4]) rfl | exact Ent.pull_drop (is := [5]) rfl | exact Ent.pull_drop (is := [6]) rfl | exact Ent.pull_drop (is := [7]) rfl) ?_
 refine RD.E rfl rfl rfl rfl (e_buildSlice rfl Tryz.underlying77 ti_3 rfl (by decide) rfl (by simp)) (by rintro _ _ ⟨_, rfl, rfl⟩; exact .inl (by first | exact Ent.refl _ | exact Ent.pull_drop (is := [0]) rfl | exact Ent.pull_drop (is := [1]) rfl | exact Ent.pull_drop (is := [2]) rfl | exact Ent.pull_drop (is := [3]) rfl | exact Ent.pull_drop (is := [4]) rfl | exact Ent.pull_drop (is := [5]) rfl | exact Ent.pull_drop (is := [6]) rfl | exact Ent.pull_drop (is := [7]) rfl)) ?_
 rintro _ _ ⟨b7, rfl, rfl⟩
 refine RD.C [0, 1] rfl rfl rfl rfl (c_call rfl rfl) (Told20_spec A hB wWrite b7 2 [a, b] (two_bd ha hb) (by decide) (by simp)) rfl (by rintro _ _ ⟨rfl, rfl⟩; exact .inl (by first | exact Ent.refl _ | exact Ent.pull_drop (is := [0]) rfl | exact Ent.pull_drop (is := [1]) rfl | exact Ent.pull_drop (is := [2]) rfl | exact Ent.pull_drop (is := [3]) rfl | exact Ent.pull_drop (is := [4]) rfl | exact Ent.pull_drop (is := [5]) rfl | exact Ent.pull_drop (is := [6]) rfl | exact Ent.pull_drop (is := [7]) rfl)) ?_
 rintro _ _ ⟨rfl, rfl⟩
 rw [told_two]
 refine RD.n rfl (p_sadd rfl rfl rfl (by simp only [List.length_append, List.length_cons, List.length_nil, wWrite]; omega)) ?_
 refine RD.C [0] rfl rfl rfl rfl (c_call rfl rfl) (Quote_spec A hA s hs) rfl (by rintro _ _ ⟨rfl, rfl⟩; exact .inl (by first | exact Ent.refl _ | exact Ent.pull_drop (is := [0]) rfl | exact Ent.pull_drop (is := [1]) rfl | exact Ent.pull_drop (is := [2]) rfl | exact Ent.pull_drop (is := [3]) rfl | exact Ent.pull_drop (is := [4]) rfl | exact Ent.pull_drop (is := [5]) rfl | exact Ent.pull_drop (is := [6]) rfl | exact Ent.pull_drop (is := [7]) rfl)) ?_
 rintro _ _ ⟨rfl, rfl⟩
 refine RD.n rfl (p_sadd rfl rfl rfl (by simp only [List.length_append, List.length_cons, List.length_nil, wWrite]; omega)) ?_
 refine RD.n rfl (p_assign rfl (by conv => lhs; whnf)) ?_
 refine RD.nil ?_
 refine hK2 _ _ ?_
 refine T.ret ?_
 refine bodyQ_ret [A] (RetRun.tmp RetRun.nil) ⟨congrArg strV (by simp), rfl⟩ (Ent.pull_drop (is := [0, 1]) rfl)

theorem TMount_spec (A : Assn) (hB : Glob2 Tryz.prog 0 A) (a : Int) (ha : -999999999 ≤ a ∧ a ≤ 999999999) : Ctr Tryz.prog 126 [.agg #[iC a]] [A] (fun w Ps => w = strV (if a = -1 then wMount else wMount ++ nT a) ∧ Ps = [A]) := by
 refine Ctr.of_body Tryz.func126 rfl (by kernel_rfl) Tryz.ntmps126 rfl rfl (fun Fr => ?_)
 refine T.seq fun K1 hK1 => ?_
 refine T.region (l := [0, 1]) rfl ?_
 refine RN.E rfl rfl rfl rfl (e_box (vs := [iC a]) rfl rfl rfl) ?_
 rintro _ _ ⟨b1, rfl, rfl⟩
 refine RN.a rfl ?_
 refine RN.nil ?_
 refine hK1 _ _ ?_
 refine T.seq fun K2 hK2 => ?_
 refine T.seq fun K3 hK3 => ?_
 refine T.region (l := [0, 1, 2]) rfl ?_
 refine RN.p rfl (p_fieldAddr rfl fa_56_0 rfl) ?_
 refine RN.u rfl (q_load rfl sc_3 rfl (i := 0) rfl rfl) ?_
 refine RN.p rfl (p_eql rfl rfl rfl) ?_
 refine RN.nil ?_
 refine hK3 _ _ ?_
 first | refine T.cond_dec rfl (fun h5 => ?_) (fun h5 => ?_) | refine T.cond rfl (fun h5 => ?_) (fun h5 => ?_)
 ·
  refine T.seq fun K4 hK4 => ?_
  refine T.region (l := [0]) rfl ?_
  refine RN.a rfl ?_
  refine RN.nil ?_
  refine hK4 _ _ ?_
  refine T.ret ?_
  refine Post.seq_r ?_
  refine bodyQ_ret [A] (RetRun.tmp RetRun.nil) ⟨congrArg strV (by rw [if_pos h5]; rfl), rfl⟩ (Ent.pull_drop (is := [1, 1]) rfl)
 ·
  refine T.skip ?_
  refine hK2 _ _ ?_
  refine T.seq fun K5 hK5 => ?_
  refine T.region (l := [0, 1, 2, 3, 4]) rfl ?_
  refine RN.p rfl (p_fieldAddr rfl fa_56_0 rfl) ?_
  refine RN.u rfl (q_load rfl sc_3 rfl (i := 0) rfl rfl) ?_
  refine RN.E rfl rfl rfl rfl (e_buildSlice1 rfl Tryz.underlying77 ti_3 rfl (by conv => lhs; whnf) rfl) ?_
  rintro _ _ ⟨b8, rfl, rfl⟩
  refine RN.C [0, 1] rfl rfl rfl rfl (c_call rfl rfl) (Told20_spec A hB wMount b8 1 [a] (one_bd ha) (by decide) (by simp)) rfl ?_
  rintro _ _ ⟨rfl, rfl⟩
  rw [told_one]
  refine RN.a rfl ?_
  refine RN.nil ?_
  refine hK5 _ _ ?_
  refine T.ret ?_
  refine bodyQ_ret [A] (RetRun.tmp RetRun.nil) ⟨congrArg strV (by rw [if_neg h5]), rfl⟩ (Ent.pull_drop (is := [0, 1]) rfl)

theorem TShow_spec (A : Assn) : Ctr Tryz.prog 127 [.agg #[]] [A] (fun w Ps => w = strV wShow ∧ Ps = [A]) := by
 refine Ctr.of_body Tryz.func127 rfl (by kernel_rfl) Tryz.ntmps127 rfl rfl (fun Fr => ?_)
 refine T.seq fun K1 hK1 => ?_
 refine T.region (l := [0, 1]) rfl ?_
 refine RN.E rfl rfl rfl rfl (e_box (vs := []) rfl rfl rfl) ?_
 rintro _ _ ⟨b1, rfl, rfl⟩
 refine RN.a rfl ?_
 refine RN.nil ?_
 refine hK1 _ _ ?_
 refine T.seq fun K2 hK2 => ?_
 refine T.region (l := [0]) rfl ?_
 refine RN.a rfl ?_
 refine RN.nil ?_
 refine hK2 _ _ ?_
 refine T.ret ?_
 refine bodyQ_ret [A] (RetRun.tmp RetRun.nil) ⟨rfl, rfl⟩ (Ent.pull_drop (is := [1, 1]) rfl)

theorem TStat_spec (A : Assn) : Ctr Tryz.prog 128 [.agg #[]] [A] (fun w Ps => w = strV wStat ∧ Ps = [A]) := by
 refine Ctr.of_body Tryz.func128 rfl (by kernel_rfl) Tryz.ntmps128 rfl rfl (fun Fr => ?_)
 refine T.seq fun K1 hK1 => ?_
 refine T.region (l := [0, 1]) rfl ?_
 refine RN.E rfl rfl rfl rfl (e_box (vs := []) rfl rfl rfl) ?_
 rintro _ _ ⟨b1, rfl, rfl⟩
 refine RN.a rfl ?_
 refine RN.nil ?_
 refine hK1 _ _ ?_
 refine T.seq fun K2 hK2 => ?_
 refine T.region (l := [0]) rfl ?_
 refine RN.a rfl ?_
 refine RN.nil ?_
 refine hK2 _ _ ?_
 refine T.ret ?_
 refine bodyQ_ret [A] (RetRun.tmp RetRun.nil) ⟨rfl, rfl⟩ (Ent.pull_drop (is := [1, 1]) rfl)

theorem text_114 {c : Cm} (h : c.kind = 114) : (([114, 101, 97, 100, 32] ++ Lib.itoa c.a) ++ [32]) ++ Lib.itoa c.b = textF c := by unfold textF; rw [if_pos h]; simp [nT, wRead]
theorem text_119 {c : Cm} (h : c.kind = 119) : ((((([119, 114, 105, 116, 101, 32] ++ Lib.itoa c.a) ++ [32]) ++ Lib.itoa c.b) ++ [32]) ++ Qt c.data) = textF c := by unfold textF; rw [if_neg (by omega), if_pos h]; simp [nT, wWrite]
theorem text_116 {c : Cm} (h : c.kind = 116) : (([116, 114, 105, 109, 32] ++ Lib.itoa c.a) ++ [32]) ++ Lib.itoa c.b = textF c := by unfold textF; rw [if_neg (by omega), if_neg (by omega), if_pos h]; simp [nT, wTrim]
theorem text_99 {c : Cm} (h : c.kind = 99) : [99, 117, 116, 32] ++ Lib.itoa c.a = textF c := by unfold textF; rw [if_neg (by omega), if_neg (by omega), if_neg (by omega), if_pos h]; simp [nT, wCut]
theorem text_102 {c : Cm} (h : c.kind = 102) : [102, 97, 105, 108, 32] ++ Lib.itoa c.a = textF c := by unfold textF; rw [if_neg (by omega), if_neg (by omega), if_neg (by omega), if_neg (by omega), if_pos h]; simp [nT, wFail]
theorem text_109a {c : Cm} (h : c.kind = 109) (ha : c.a = -1) : [109, 111, 117, 110, 116] = textF c := by unfold textF; rw [if_neg (by omega), if_neg (by omega), if_neg (by omega), if_neg (by omega), if_neg (by omega), if_pos h, if_pos ha]; rfl
theorem text_109 {c : Cm} (h : c.kind = 109) (ha : ¬ c.a = -1) : [109, 111, 117, 110, 116, 32] ++ Lib.itoa c.a = textF c := by unfold textF; rw [if_neg (by omega), if_neg (by omega), if_neg (by omega), if_neg (by omega), if_neg (by omega), if_pos h, if_neg ha]; simp [nT, wMount]
theorem text_115 {c : Cm} (h : c.kind = 115) : [115, 104, 111, 119] = textF c := by unfold textF; rw [if_neg (by omega), if_neg (by omega), if_neg (by omega), if_neg (by omega), if_neg (by omega), if_neg (by omega), if_pos h]; rfl
theorem text_105 {c : Cm} (h1 : c.kind ≠ 114) (h2 : c.kind ≠ 119) (h3 : c.kind ≠ 116) (h4 : c.kind ≠ 99) (h5 : c.kind ≠ 102) (h6 : c.kind ≠ 109) (h7 : c.kind ≠ 115) : [115, 116, 97, 116] = textF c := by unfold textF; rw [if_neg h1, if_neg h2, if_neg h3, if_neg h4, if_neg h5, if_neg h6, if_neg h7]; rfl

theorem RText_spec (c : Cm) (hc : CmW c) : Ctr Tryz.prog 9 [.agg (rcC c).toArray] [] (fun w Ps => w = strV (textF c) ∧ Ps = []) := by
 refine Ctr.of_body Tryz.func9 rfl (by kernel_rfl) Tryz.ntmps9 rfl rfl (fun Fr => ?_)
 have h1 := itoa_lenW hc.a
 have h2 := itoa_lenW hc.b
 have h3 := Qt_len c.data
 have h4 := hc.data
 refine T.seq fun K1 hK1 => ?_
 refine T.region (l := [0, 1]) rfl ?_
 refine RN.E rfl rfl rfl rfl (e_box (vs := rcC c) rfl rfl rfl) ?_
 rintro _ _ ⟨b1, rfl, rfl⟩
 refine RN.a rfl ?_
 refine RN.nil ?_
 refine hK1 _ _ ?_
 refine T.seq fun K2 hK2 => ?_
 refine T.seq fun K3 hK3 => ?_
 refine T.region (l := [0, 1]) rfl ?_
 refine RN.p rfl (p_fieldAddr rfl fa_31_0 rfl) ?_
 refine RN.u rfl (q_load rfl sc_5 rfl (i := 0) rfl rfl) ?_
 refine RN.nil ?_
 refine hK3 _ _ ?_
 refine T.block ?_
 refine T.seq fun K4 hK4 => ?_
 refine T.region (l := [0, 1]) rfl ?_
 refine RN.p rfl (p_eql rfl rfl rfl) ?_
 refine RN.a rfl ?_
 refine RN.nil ?_
 refine hK4 _ _ ?_
 first | refine T.cond_dec rfl (fun h5 => ?_) (fun h5 => ?_) | refine T.cond rfl (fun h5 => ?_) (fun h5 => ?_)
 ·
  refine T.seq fun K5 hK5 => ?_
  refine T.regionD (z := 10) (Bs := [row b1 31 (rcC c)]) (l := [(0, .pure), (1, .load), (5, .pure), (6, .load), (2, .eff), (3, .pure), (4, .pure), (7, .eff), (8, .pure), (9, .pure)]) mixed (by kernel_rfl) (by first | exact Ent.refl _ | exact Ent.pull_drop (is := [0]) rfl | exact Ent.pull_drop (is := [1]) rfl | exact Ent.pull_drop (is := [2]) rfl | exact Ent.pull_drop (is := [3]) rfl | exact Ent.pull_drop (is := [4]) rfl | exact Ent.pull_drop (is := [5]) rfl | exact Ent.pull_drop (is := [6]) rfl | exact Ent.pull_drop (is := [7]) rfl) ?_
  refine RD.n rfl (p_fieldAddr rfl fa_31_1 rfl) ?_
  refine RD.qq rfl rfl rfl rfl (by first | exact (q_load rfl sc_3 rfl (i := 0) rfl rfl) | exact (q_load rfl sc_3 rfl (i := 1) rfl rfl) | exact (q_load rfl sc_3 rfl (i := 2) rfl rfl) | exact (q_load rfl sc_3 rfl (i := 3) rfl rfl) | exact (q_load rfl sc_3 rfl (i := 4) rfl rfl)) (by first | exact Ent.refl _ | exact Ent.pull_drop (is := [0]) rfl | exact Ent.pull_drop (is := [1]) rfl | exact Ent.pull_drop (is := [2]) rfl | exact Ent.pull_drop (is := [3]) rfl | exact Ent.pull_drop (is := [4]) rfl | exact Ent.pull_drop (is := [5]) rfl | exact Ent.pull_drop (is := [6]) rfl | exact Ent.pull_drop (is := [7]) rfl) ?_
  refine RD.n rfl (p_fieldAddr rfl fa_31_2 rfl) ?_
  refine RD.qq rfl rfl rfl rfl (by first | exact (q_load rfl sc_3 rfl (i := 0) rfl rfl) | exact (q_load rfl sc_3 rfl (i := 1) rfl rfl) | exact (q_load rfl sc_3 rfl (i := 2) rfl rfl) | exact (q_load rfl sc_3 rfl (i := 3) rfl rfl) | exact (q_load rfl sc_3 rfl (i := 4) rfl rfl)) (by first | exact Ent.refl _ | exact Ent.pull_drop (is := [0]) rfl | exact Ent.pull_drop (is := [1]) rfl | exact Ent.pull_drop (is := [2]) rfl | exact Ent.pull_drop (is := [3]) rfl | exact Ent.pull_drop (is := [4]) rfl | exact Ent.pull_drop (is := [5]) rfl | exact Ent.pull_drop (is := [6]) rfl | exact Ent.pull_drop (is := [7]) rfl) ?_
  refine RD.C [] rfl rfl rfl rfl (c_call rfl rfl) (Num_W hc.a) rfl (by rintro _ _ ⟨rfl, rfl⟩; exact .inl (by first | exact Ent.refl _ | exact Ent.pull_drop (is := [0]) rfl | exact Ent.pull_drop (is := [1]) rfl | exact Ent.pull_drop (is := [2]) rfl | exact Ent.pull_drop (is := [3]) rfl | exact Ent.pull_drop (is := [4]) rfl | exact Ent.pull_drop (is := [5]) rfl | exact Ent.pull_drop (is := [6]) rfl | exact Ent.pull_drop (is := [7]) rfl)) ?_
  rintro _ _ ⟨rfl, rfl⟩
  refine RD.n rfl (p_sadd rfl rfl rfl (by simp only [List.length_append, List.length_cons, List.length_nil]; omega)) ?_
  refine RD.n rfl (p_sadd rfl rfl rfl (by simp only [List.length_append, List.length_cons, List.length_nil]; omega)) ?_
  refine RD.C [] rfl rfl rfl rfl (c_call rfl rfl) (Num_W hc.b) rfl (by rintro _ _ ⟨rfl, rfl⟩; exact .inl (by first | exact Ent.refl _ | exact Ent.pull_drop (is := [0]) rfl | exact Ent.pull_drop (is := [1]) rfl | exact Ent.pull_drop (is := [2]) rfl | exact Ent.pull_drop (is := [3]) rfl | exact Ent.pull_drop (is := [4]) rfl | exact Ent.pull_drop (is := [5]) rfl | exact Ent.pull_drop (is := [6]) rfl | exact Ent.pull_drop (is := [7]) rfl)) ?_
  rintro _ _ ⟨rfl, rfl⟩
  refine RD.n rfl (p_sadd rfl rfl rfl (by simp only [List.length_append, List.length_cons, List.length_nil]; omega)) ?_
  refine RD.n rfl (p_assign rfl (by conv => lhs; whnf)) ?_
  refine RD.nil ?_
  refine hK5 _ _ ?_
  refine T.ret ?_
  refine Post.block_r ?_
  refine Post.seq_r ?_
  refine bodyQ_ret [] (RetRun.tmp RetRun.nil) ⟨congrArg strV (text_114 (by omega)), rfl⟩ (Ent.pull_drop (is := [1]) rfl)
 ·
  refine T.seq fun K6 hK6 => ?_
  refine T.region (l := [0, 1]) rfl ?_
  refine RN.p rfl (p_eql rfl rfl rfl) ?_
  refine RN.a rfl ?_
  refine RN.nil ?_
  refine hK6 _ _ ?_
  first | refine T.cond_dec rfl (fun h16 => ?_) (fun h16 => ?_) | refine T.cond rfl (fun h16 => ?_) (fun h16 => ?_)
  ·
   refine T.seq fun K7 hK7 => ?_
   refine T.regionD (z := 15) (Bs := [row b1 31 (rcC c)]) (l := [(0, .pure), (1, .load), (5, .pure), (6, .load), (10, .pure), (11, .load), (2, .eff), (3, .pure), (4, .pure), (7, .eff), (8, .pure), (9, .pure), (12, .eff), (13, .pure), (14, .pure)]) mixed (by kernel_rfl) (by first | exact Ent.refl _ | exact Ent.pull_drop (is := [0]) rfl | exact Ent.pull_drop (is := [1]) rfl | exact Ent.pull_drop (is := [2]) rfl | exact Ent.pull_drop (is := [3]) rfl | exact Ent.pull_drop (is := [4]) rfl | exact Ent.pull_drop (is := [5]) rfl | exact Ent.pull_drop (is := [6]) rfl | exact Ent.pull_drop (is := [7]) rfl) ?_
   refine RD.n rfl (p_fieldAddr rfl fa_31_1 rfl) ?_
   refine RD.qq rfl rfl rfl rfl (by first | exact (q_load rfl sc_3 rfl (i := 0) rfl rfl) | exact (q_load rfl sc_3 rfl (i := 1) rfl rfl) | exact (q_load rfl sc_3 rfl (i := 2) rfl rfl) | exact (q_load rfl sc_3 rfl (i := 3) rfl rfl) | exact (q_load rfl sc_3 rfl (i := 4) rfl rfl)) (by first | exact Ent.refl _ | exact Ent.pull_drop (is := [0]) rfl | exact Ent.pull_drop (is := [1]) rfl | exact Ent.pull_drop (is := [2]) rfl | exact Ent.pull_drop (is := [3]) rfl | exact Ent.pull_drop (is := [4]) rfl | exact Ent.pull_drop (is := [5]) rfl | exact Ent.pull_drop (is := [6]) rfl | exact Ent.pull_drop (is := [7]) rfl) ?_
   refine RD.n rfl (p_fieldAddr rfl fa_31_2 rfl) ?_
   refine RD.qq rfl rfl rfl rfl (by first | exact (q_load rfl sc_3 rfl (i := 0) rfl rfl) | exact (q_load rfl sc_3 rfl (i := 1) rfl rfl) | exact (q_load rfl sc_3 rfl (i := 2) rfl rfl) | exact (q_load rfl sc_3 rfl (i := 3) rfl rfl) | exact (q_load rfl sc_3 rfl (i := 4) rfl rfl)) (by first | exact Ent.refl _ | exact Ent.pull_drop (is := [0]) rfl | exact Ent.pull_drop (is := [1]) rfl | exact Ent.pull_drop (is := [2]) rfl | exact Ent.pull_drop (is := [3]) rfl | exact Ent.pull_drop (is := [4]) rfl | exact Ent.pull_drop (is := [5]) rfl | exact Ent.pull_drop (is := [6]) rfl | exact Ent.pull_drop (is := [7]) rfl) ?_
   refine RD.n rfl (p_fieldAddr rfl fa_31_3 rfl) ?_
   refine RD.qq rfl rfl rfl rfl (by first | exact (q_load rfl sc_9 rfl (i := 0) rfl rfl) | exact (q_load rfl sc_9 rfl (i := 1) rfl rfl) | exact (q_load rfl sc_9 rfl (i := 2) rfl rfl) | exact (q_load rfl sc_9 rfl (i := 3) rfl rfl) | exact (q_load rfl sc_9 rfl (i := 4) rfl rfl)) (by first | exact Ent.refl _ | exact Ent.pull_drop (is := [0]) rfl | exact Ent.pull_drop (is := [1]) rfl | exact Ent.pull_drop (is := [2]) rfl | exact Ent.pull_drop (is := [3]) rfl | exact Ent.pull_drop (is := [4]) rfl | exact Ent.pull_drop (is := [5]) rfl | exact Ent.pull_drop (is := [6]) rfl | exact Ent.pull_drop (is := [7]) rfl) ?_
   refine RD.C [] rfl rfl rfl rfl (c_call rfl rfl) (Num_W hc.a) rfl (by rintro _ _ ⟨rfl, rfl⟩; exact .inl (by first | exact Ent.refl _ | exact Ent.pull_drop (is := [0]) rfl | exact Ent.pull_drop (is := [1]) rfl | exact Ent.pull_drop (is := [2]) rfl | exact Ent.pull_drop (is := [3]) rfl | exact Ent.pull_drop (is := [4]) rfl | exact Ent.pull_drop (is := [5]) rfl | exact Ent.pull_drop (is := [6]) rfl | exact Ent.pull_drop (is := [7]) rfl)) ?_
   rintro _ _ ⟨rfl, rfl⟩
   refine RD.n rfl (p_sadd rfl rfl rfl (by simp only [List.length_append, List.length_cons, List.length_nil]; omega)) ?_
   refine RD.n rfl (p_sadd rfl rfl rfl (by simp only [List.length_append, List.length_cons, List.length_nil]; omega)) ?_
   refine RD.C [] rfl rfl rfl rfl (c_call rfl rfl) (Num_W hc.b) rfl (by rintro _ _ ⟨rfl, rfl⟩; exact .inl (by first | exact Ent.refl _ | exact Ent.pull_drop (is := [0]) rfl | exact Ent.pull_drop (is := [1]) rfl | exact Ent.pull_drop (is := [2]) rfl | exact Ent.pull_drop (is := [3]) rfl | exact Ent.pull_drop (is := [4]) rfl | exact Ent.pull_drop (is := [5]) rfl | exact Ent.pull_drop (is := [6]) rfl | exact Ent.pull_drop (is := [7]) rfl)) ?_
   rintro _ _ ⟨rfl, rfl⟩
   refine RD.n rfl (p_sadd rfl rfl rfl (by simp only [List.length_append, List.length_cons, List.length_nil]; omega)) ?_
   refine RD.n rfl (p_sadd rfl rfl rfl (by simp only [List.length_append, List.length_cons, List.length_nil]; omega)) ?_
   refine RD.C [] rfl rfl rfl rfl (c_call rfl rfl) (RQuote_spec c.data hc.data) rfl (by rintro _ _ ⟨rfl, rfl⟩; exact .inl (by first | exact Ent.refl _ | exact Ent.pull_drop (is := [0]) rfl | exact Ent.pull_drop (is := [1]) rfl | exact Ent.pull_drop (is := [2]) rfl | exact Ent.pull_drop (is := [3]) rfl | exact Ent.pull_drop (is := [4]) rfl | exact Ent.pull_drop (is := [5]) rfl | exact Ent.pull_drop (is := [6]) rfl | exact Ent.pull_drop (is := [7]) rfl)) ?_
   rintro _ _ ⟨rfl, rfl⟩
   refine RD.n rfl (p_sadd rfl rfl rfl (by simp only [List.length_append, List.length_cons, List.length_nil]; omega)) ?_
   refine RD.n rfl (p_assign rfl (by conv => lhs; whnf)) ?_
   refine RD.nil ?_
   refine hK7 _ _ ?_
   refine T.ret ?_
   refine Post.block_r ?_
   refine Post.seq_r ?_
   refine bodyQ_ret [] (RetRun.tmp RetRun.nil) ⟨congrArg strV (text_119 (by omega)), rfl⟩ (Ent.pull_drop (is := [1]) rfl)
  ·
   refine T.seq fun K8 hK8 => ?_
   refine T.region (l := [0, 1]) rfl ?_
   refine RN.p rfl (p_eql rfl rfl rfl) ?_
   refine RN.a rfl ?_
   refine RN.nil ?_
   refine hK8 _ _ ?_
   first | refine T.cond_dec rfl (fun h32 => ?_) (fun h32 => ?_) | refine T.cond rfl (fun h32 => ?_) (fun h32 => ?_)
   ·
    refine T.seq fun K9 hK9 => ?_
    refine T.regionD (z := 10) (Bs := [row b1 31 (rcC c)]) (l := [(0, .pure), (1, .load), (5, .pure), (6, .load), (2, .eff), (3, .pure), (4, .pure), (7, .eff), (8, .pure), (9, .pure)]) mixed (by kernel_rfl) (by first | exact Ent.refl _ | exact Ent.pull_drop (is := [0]) rfl | exact Ent.pull_drop (is := [1]) rfl | exact Ent.pull_drop (is := [2]) rfl | exact Ent.pull_drop (is := [3]) rfl | exact Ent.pull_drop (is := [4]) rfl | exact Ent.pull_drop (is := [5]) rfl | exact Ent.pull_drop (is := [6]) rfl | exact Ent.pull_drop (is := [7]) rfl) ?_
    refine RD.n rfl (p_fieldAddr rfl fa_31_1 rfl) ?_
    refine RD.qq rfl rfl rfl rfl (by first | exact (q_load rfl sc_3 rfl (i := 0) rfl rfl) | exact (q_load rfl sc_3 rfl (i := 1) rfl rfl) | exact (q_load rfl sc_3 rfl (i := 2) rfl rfl) | exact (q_load rfl sc_3 rfl (i := 3) rfl rfl) | exact (q_load rfl sc_3 rfl (i := 4) rfl rfl)) (by first | exact Ent.refl _ | exact Ent.pull_drop (is := [0]) rfl | exact Ent.pull_drop (is := [1]) rfl | exact Ent.pull_drop (is := [2]) rfl | exact Ent.pull_drop (is := [3]) rfl | exact Ent.pull_drop (is := [4]) rfl | exact Ent.pull_drop (is := [5]) rfl | exact Ent.pull_drop (is := [6]) rfl | exact Ent.pull_drop (is := [7]) rfl) ?_
    refine RD.n rfl (p_fieldAddr rfl fa_31_2 rfl) ?_
    refine RD.qq rfl rfl rfl rfl (by first | exact (q_load rfl sc_3 rfl (i := 0) rfl rfl) | exact (q_load rfl sc_3 rfl (i := 1) rfl rfl) | exact (q_load rfl sc_3 rfl (i := 2) rfl rfl) | exact (q_load rfl sc_3 rfl (i := 3) rfl rfl) | exact (q_load rfl sc_3 rfl (i := 4) rfl rfl)) (by first | exact Ent.refl _ | exact Ent.pull_drop (is := [0]) rfl | exact Ent.pull_drop (is := [1]) rfl | exact Ent.pull_drop (is := [2]) rfl | exact Ent.pull_drop (is := [3]) rfl | exact Ent.pull_drop (is := [4]) rfl | exact Ent.pull_drop (is := [5]) rfl | exact Ent.pull_drop (is := [6]) rfl | exact Ent.pull_drop (is := [7]) rfl) ?_
    refine RD.C [] rfl rfl rfl rfl (c_call rfl rfl) (Num_W hc.a) rfl (by rintro _ _ ⟨rfl, rfl⟩; exact .inl (by first | exact Ent.refl _ | exact Ent.pull_drop (is := [0]) rfl | exact Ent.pull_drop (is := [1]) rfl | exact Ent.pull_drop (is := [2]) rfl | exact Ent.pull_drop (is := [3]) rfl | exact Ent.pull_drop (is := [4]) rfl | exact Ent.pull_drop (is := [5]) rfl | exact Ent.pull_drop (is := [6]) rfl | exact Ent.pull_drop (is := [7]) rfl)) ?_
    rintro _ _ ⟨rfl, rfl⟩
    refine RD.n rfl (p_sadd rfl rfl rfl (by simp only [List.length_append, List.length_cons, List.length_nil]; omega)) ?_
    refine RD.n rfl (p_sadd rfl rfl rfl (by simp only [List.length_append, List.length_cons, List.length_nil]; omega)) ?_
    refine RD.C [] rfl rfl rfl rfl (c_call rfl rfl) (Num_W hc.b) rfl (by rintro _ _ ⟨rfl, rfl⟩; exact .inl (by first | exact Ent.refl _ | exact Ent.pull_drop (is := [0]) rfl | exact Ent.pull_drop (is := [1]) rfl | exact Ent.pull_drop (is := [2]) rfl | exact Ent.pull_drop (is := [3]) rfl | exact Ent.pull_drop (is := [4]) rfl | exact Ent.pull_drop (is := [5]) rfl | exact Ent.pull_drop (is := [6]) rfl | exact Ent.pull_drop (is := [7]) rfl)) ?_
    rintro _ _ ⟨rfl, rfl⟩
    refine RD.n rfl (p_sadd rfl rfl rfl (by simp only [List.length_append, List.length_cons, List.length_nil]; omega)) ?_
    refine RD.n rfl (p_assign rfl (by conv => lhs; whnf)) ?_
    refine RD.nil ?_
    refine hK9 _ _ ?_
    refine T.ret ?_
    refine Post.block_r ?_
    refine Post.seq_r ?_
    refine bodyQ_ret [] (RetRun.tmp RetRun.nil) ⟨congrArg strV (text_116 (by omega)), rfl⟩ (Ent.pull_drop (is := [1]) rfl)
   ·
    refine T.seq fun K10 hK10 => ?_
    refine T.region (l := [0, 1]) rfl ?_
    refine RN.p rfl (p_eql rfl rfl rfl) ?_
    refine RN.a rfl ?_
    refine RN.nil ?_
    refine hK10 _ _ ?_
    first | refine T.cond_dec rfl (fun h43 => ?_) (fun h43 => ?_) | refine T.cond rfl (fun h43 => ?_) (fun h43 => ?_)
    ·
     refine T.seq fun K11 hK11 => ?_
     refine T.region (l := [0, 1, 2, 3, 4]) rfl ?_
     refine RN.p rfl (p_fieldAddr rfl fa_31_1 rfl) ?_
     refine RN.u rfl (q_load rfl sc_3 rfl (i := 0) rfl rfl) ?_
     refine RN.C [] rfl rfl rfl rfl (c_call rfl rfl) (Num_W hc.a) rfl ?_
     rintro _ _ ⟨rfl, rfl⟩
     refine RN.p rfl (p_sadd rfl rfl rfl (by simp only [List.length_append, List.length_cons, List.length_nil]; omega)) ?_
     refine RN.a rfl ?_
     refine RN.nil ?_
     refine hK11 _ _ ?_
     refine T.ret ?_
     refine Post.block_r ?_
     refine Post.seq_r ?_
     refine bodyQ_ret [] (RetRun.tmp RetRun.nil) ⟨congrArg strV (text_99 (by omega)), rfl⟩ (Ent.pull_drop (is := [1]) rfl)
    ·
     refine T.seq fun K12 hK12 => ?_
     refine T.region (l := [0, 1]) rfl ?_
     refine RN.p rfl (p_eql rfl rfl rfl) ?_
     refine RN.a rfl ?_
     refine RN.nil ?_
     refine hK12 _ _ ?_
     first | refine T.cond_dec rfl (fun h49 => ?_) (fun h49 => ?_) | refine T.cond rfl (fun h49 => ?_) (fun h49 => ?_)
     ·
      refine T.seq fun K13 hK13 => ?_
      refine T.region (l := [0, 1, 2, 3, 4]) rfl ?_
      refine RN.p rfl (p_fieldAddr rfl fa_31_1 rfl) ?_
      refine RN.u rfl (q_load rfl sc_3 rfl (i := 0) rfl rfl) ?_
      refine RN.C [] rfl rfl rfl rfl (c_call rfl rfl) (Num_W hc.a) rfl ?_
      rintro _ _ ⟨rfl, rfl⟩
      refine RN.p rfl (p_sadd rfl rfl rfl (by simp only [List.length_append, List.length_cons, List.length_nil]; omega)) ?_
      refine RN.a rfl ?_
      refine RN.nil ?_
      refine hK13 _ _ ?_
      refine T.ret ?_
      refine Post.block_r ?_
      refine Post.seq_r ?_
      refine bodyQ_ret [] (RetRun.tmp RetRun.nil) ⟨congrArg strV (text_102 (by omega)), rfl⟩ (Ent.pull_drop (is := [1]) rfl)
     ·
      refine T.seq fun K14 hK14 => ?_
      refine T.region (l := [0, 1]) rfl ?_
      refine RN.p rfl (p_eql rfl rfl rfl) ?_
      refine RN.a rfl ?_
      refine RN.nil ?_
      refine hK14 _ _ ?_
      first | refine T.cond_dec rfl (fun h55 => ?_) (fun h55 => ?_) | refine T.cond rfl (fun h55 => ?_) (fun h55 => ?_)
      ·
       refine T.seq fun K15 hK15 => ?_
       refine T.seq fun K16 hK16 => ?_
       refine T.region (l := [0, 1, 2]) rfl ?_
       refine RN.p rfl (p_fieldAddr rfl fa_31_1 rfl) ?_
       refine RN.u rfl (q_load rfl sc_3 rfl (i := 0) rfl rfl) ?_
       refine RN.p rfl (p_eql rfl rfl rfl) ?_
       refine RN.nil ?_
       refine hK16 _ _ ?_
       first | refine T.cond_dec rfl (fun h59 => ?_) (fun h59 => ?_) | refine T.cond rfl (fun h59 => ?_) (fun h59 => ?_)
       ·
        refine T.seq fun K17 hK17 => ?_
        refine T.region (l := [0]) rfl ?_
        refine RN.a rfl ?_
        refine RN.nil ?_
        refine hK17 _ _ ?_
        refine T.ret ?_
        refine Post.seq_r ?_
        refine Post.block_r ?_
        refine Post.seq_r ?_
        refine bodyQ_ret [] (RetRun.tmp RetRun.nil) ⟨congrArg strV (text_109a (by omega) h59), rfl⟩ (Ent.pull_drop (is := [1]) rfl)
       ·
        refine T.skip ?_
        refine hK15 _ _ ?_
        refine T.seq fun K18 hK18 => ?_
        refine T.region (l := [0, 1, 2, 3, 4]) rfl ?_
        refine RN.p rfl (p_fieldAddr rfl fa_31_1 rfl) ?_
        refine RN.u rfl (q_load rfl sc_3 rfl (i := 0) rfl rfl) ?_
        refine RN.C [] rfl rfl rfl rfl (c_call rfl rfl) (Num_W hc.a) rfl ?_
        rintro _ _ ⟨rfl, rfl⟩
        refine RN.p rfl (p_sadd rfl rfl rfl (by simp only [List.length_append, List.length_cons, List.length_nil]; omega)) ?_
        refine RN.a rfl ?_
        refine RN.nil ?_
        refine hK18 _ _ ?_
        refine T.ret ?_
        refine Post.block_r ?_
        refine Post.seq_r ?_
        refine bodyQ_ret [] (RetRun.tmp RetRun.nil) ⟨congrArg strV (text_109 (by omega) h59), rfl⟩ (Ent.pull_drop (is := [1]) rfl)
      ·
       refine T.seq fun K19 hK19 => ?_
       refine T.region (l := [0, 1]) rfl ?_
       refine RN.p rfl (p_eql rfl rfl rfl) ?_
       refine RN.a rfl ?_
       refine RN.nil ?_
       refine hK19 _ _ ?_
       first | refine T.cond_dec rfl (fun h64 => ?_) (fun h64 => ?_) | refine T.cond rfl (fun h64 => ?_) (fun h64 => ?_)
       ·
        refine T.seq fun K20 hK20 => ?_
        refine T.region (l := [0]) rfl ?_
        refine RN.a rfl ?_
        refine RN.nil ?_
        refine hK20 _ _ ?_
        refine T.ret ?_
        refine Post.block_r ?_
        refine Post.seq_r ?_
        refine bodyQ_ret [] (RetRun.tmp RetRun.nil) ⟨congrArg strV (text_115 (by omega)), rfl⟩ (Ent.pull_drop (is := [1]) rfl)
       ·
        refine T.skip ?_
        refine hK2 _ _ ?_
        refine T.seq fun K21 hK21 => ?_
        refine T.region (l := [0]) rfl ?_
        refine RN.a rfl ?_
        refine RN.nil ?_
        refine hK21 _ _ ?_
        refine T.ret ?_
        refine bodyQ_ret [] (RetRun.tmp RetRun.nil) ⟨congrArg strV (text_105 (by omega) (by omega) (by omega) (by omega) (by omega) (by omega) (by omega)), rfl⟩ (Ent.pull_drop (is := [1]) rfl)

end Go.Proofs.YtokbjejbgbdkoaaGreatDoor
namespace Go.Proofs.YtokbjejbgbdkoaaGreatDoor
open Go Go.Sl Go.Proofs
set_option maxRecDepth 20000
open Go.Mo Go.Proofs Go.Shelf Go.RowKit Go.Evl
theorem OfRead_spec (a b : Int) : Ctr Tryz.prog 8 [.iface 51 (.agg #[iC a, iC b])] [] (fun w Ps => w = .tuple #[.agg (rcC (Cm.mk 114 a b [])).toArray, .bool true] ∧ Ps = []) := by
 refine Ctr.of_body Tryz.func8 rfl (by kernel_rfl) Tryz.ntmps8 rfl rfl (fun Fr => ?_)
 refine T.seq fun K1 hK1 => ?_
 refine T.region (l := [0, 1]) rfl ?_
 refine RN.E rfl rfl rfl rfl (e_alloc rfl ti_31) ?_
 rintro _ _ ⟨b2, rfl, rfl⟩
 refine RN.a rfl ?_
 refine RN.nil ?_
 refine hK1 _ _ ?_
 refine T.seq fun K2 hK2 => ?_
 refine T.seq fun K3 hK3 => ?_
 refine T.region (l := [0]) rfl ?_
 refine RN.m rfl ?_
 refine RN.nil ?_
 refine hK3 _ _ ?_
 refine T.block ?_
 refine T.seq fun K4 hK4 => ?_
 refine T.region (l := [0, 1, 2]) rfl ?_
 refine RN.p rfl (p_taYes rfl Tryz.underlying51 rfl) ?_
 refine RN.p rfl (p_extract rfl rfl rfl) ?_
 refine RN.p rfl (p_extract rfl rfl rfl) ?_
 refine RN.nil ?_
 refine hK4 _ _ ?_
 refine T.cond_t rfl ?_
 refine T.seq fun K5 hK5 => ?_
 refine T.region (l := [0, 1]) rfl ?_
 refine RN.E rfl rfl rfl rfl (e_alloc rfl ti_51) ?_
 rintro _ _ ⟨b4, rfl, rfl⟩
 refine RN.EN rfl rfl rfl (e_storeA (vs := [iC a, iC b]) rfl ts_51 rfl rfl rfl (by intro u hu; simp only [List.mem_cons, List.not_mem_nil, or_false] at hu; rcases hu with rfl | rfl <;> rfl) (i := 0) rfl (Nat.le_refl 2)) ?_
 rintro _ _ ⟨rfl, rfl⟩
 refine RN.nil ?_
 refine hK5 _ _ ?_
 refine T.seq fun K6 hK6 => ?_
 refine T.region (l := [0, 1, 2, 3, 4, 5, 6]) rfl ?_
 refine RN.p rfl (p_fieldAddr rfl fa_51_0 rfl) ?_
 refine RN.u rfl (q_load (v := iC a) rfl sc_3 rfl (i := 0) rfl rfl) ?_
 refine RN.p rfl (p_fieldAddr rfl fa_51_1 rfl) ?_
 refine RN.u rfl (q_load (v := iC b) rfl sc_3 rfl (i := 0) rfl rfl) ?_
 refine RN.p rfl (p_build rfl pl_31 ti_31 (by dsimp [layAll, lay]; rfl)) ?_
 refine RN.EN rfl rfl rfl (e_storeA (vs := rcC (Cm.mk 114 a b [])) rfl ts_31 rfl rfl rfl rc_one (i := 1) rfl (Nat.le_refl 4)) ?_
 rintro _ _ ⟨rfl, rfl⟩
 refine RN.a rfl ?_
 refine RN.nil ?_
 refine hK6 _ _ ?_
 refine T.ret ?_
 refine Post.block_r ?_
 refine Post.seq_r ?_
 refine bodyQ_ret [] (RetRun.cell rfl (load_cell (vs := rcC (Cm.mk 114 a b [])) ag_31 ts_31 (i := 1) rfl (Nat.le_refl 4) rfl) (RetRun.tmp RetRun.nil)) ⟨rfl, rfl⟩ (Ent.pull_drop (is := [2]) rfl)

theorem OfWrite_spec (a b : Int) (s : List UInt8) : Ctr Tryz.prog 8 [.iface 46 (.agg #[iC a, iC b, strV s])] [] (fun w Ps => w = .tuple #[.agg (rcC (Cm.mk 119 a b s)).toArray, .bool true] ∧ Ps = []) := by
 refine Ctr.of_body Tryz.func8 rfl (by kernel_rfl) Tryz.ntmps8 rfl rfl (fun Fr => ?_)
 refine T.seq fun K1 hK1 => ?_
 refine T.region (l := [0, 1]) rfl ?_
 refine RN.E rfl rfl rfl rfl (e_alloc rfl ti_31) ?_
 rintro _ _ ⟨b2, rfl, rfl⟩
 refine RN.a rfl ?_
 refine RN.nil ?_
 refine hK1 _ _ ?_
 refine T.seq fun K2 hK2 => ?_
 refine T.seq fun K3 hK3 => ?_
 refine T.region (l := [0]) rfl ?_
 refine RN.m rfl ?_
 refine RN.nil ?_
 refine hK3 _ _ ?_
 refine T.block ?_
 refine T.seq fun K4 hK4 => ?_
 refine T.region (l := [0, 1, 2]) rfl ?_
 refine RN.p rfl (p_taOther rfl Tryz.underlying51 ti_51 rfl (by decide)) ?_
 refine RN.p rfl (p_extract rfl rfl rfl) ?_
 refine RN.p rfl (p_extract rfl rfl rfl) ?_
 refine RN.nil ?_
 refine hK4 _ _ ?_
 refine T.cond_f rfl ?_
 refine T.seq fun K5 hK5 => ?_
 refine T.region (l := [0, 1, 2]) rfl ?_
 refine RN.p rfl (p_taYes rfl Tryz.underlying46 rfl) ?_
 refine RN.p rfl (p_extract rfl rfl rfl) ?_
 refine RN.p rfl (p_extract rfl rfl rfl) ?_
 refine RN.nil ?_
 refine hK5 _ _ ?_
 refine T.cond_t rfl ?_
 refine T.seq fun K6 hK6 => ?_
 refine T.region (l := [0, 1]) rfl ?_
 refine RN.E rfl rfl rfl rfl (e_alloc rfl ti_46) ?_
 rintro _ _ ⟨b5, rfl, rfl⟩
 refine RN.EN rfl rfl rfl (e_storeA (vs := [iC a, iC b, strV s]) rfl ts_46 rfl rfl rfl (by intro u hu; simp only [List.mem_cons, List.not_mem_nil, or_false] at hu; rcases hu with rfl | rfl | rfl <;> rfl) (i := 0) rfl (Nat.le_refl 3)) ?_
 rintro _ _ ⟨rfl, rfl⟩
 refine RN.nil ?_
 refine hK6 _ _ ?_
 refine T.seq fun K7 hK7 => ?_
 refine T.region (l := [0, 1, 2, 3, 4, 5, 6, 7, 8]) rfl ?_
 refine RN.p rfl (p_fieldAddr rfl fa_46_0 rfl) ?_
 refine RN.u rfl (q_load (v := iC a) rfl sc_3 rfl (i := 0) rfl rfl) ?_
 refine RN.p rfl (p_fieldAddr rfl fa_46_1 rfl) ?_
 refine RN.u rfl (q_load (v := iC b) rfl sc_3 rfl (i := 0) rfl rfl) ?_
 refine RN.p rfl (p_fieldAddr rfl fa_46_2 rfl) ?_
 refine RN.u rfl (q_load (v := strV s) rfl sc_9 rfl (i := 0) rfl rfl) ?_
 refine RN.p rfl (p_build rfl pl_31 ti_31 (by dsimp [layAll, lay]; rfl)) ?_
 refine RN.EN rfl rfl rfl (e_storeA (vs := rcC (Cm.mk 119 a b s)) rfl ts_31 rfl rfl rfl rc_one (i := 1) rfl (Nat.le_refl 4)) ?_
 rintro _ _ ⟨rfl, rfl⟩
 refine RN.a rfl ?_
 refine RN.nil ?_
 refine hK7 _ _ ?_
 refine T.ret ?_
 refine Post.block_r ?_
 refine Post.seq_r ?_
 refine bodyQ_ret [] (RetRun.cell rfl (load_cell (vs := rcC (Cm.mk 119 a b s)) ag_31 ts_31 (i := 1) rfl (Nat.le_refl 4) rfl) (RetRun.tmp RetRun.nil)) ⟨rfl, rfl⟩ (Ent.pull_drop (is := [2]) rfl)

theorem OfTrim_spec (a b : Int) : Ctr Tryz.prog 8 [.iface 52 (.agg #[iC a, iC b])] [] (fun w Ps => w = .tuple #[.agg (rcC (Cm.mk 116 a b [])).toArray, .bool true] ∧ Ps = []) := by
 refine Ctr.of_body Tryz.func8 rfl (by kernel_rfl) Tryz.ntmps8 rfl rfl (fun Fr => ?_)
 refine T.seq fun K1 hK1 => ?_
 refine T.region (l := [0, 1]) rfl ?_
 refine RN.E rfl rfl rfl rfl (e_alloc rfl ti_31) ?_
 rintro _ _ ⟨b2, rfl, rfl⟩
 refine RN.a rfl ?_
 refine RN.nil ?_
 refine hK1 _ _ ?_
 refine T.seq fun K2 hK2 => ?_
 refine T.seq fun K3 hK3 => ?_
 refine T.region (l := [0]) rfl ?_
 refine RN.m rfl ?_
 refine RN.nil ?_
 refine hK3 _ _ ?_
 refine T.block ?_
 refine T.seq fun K4 hK4 => ?_
 refine T.region (l := [0, 1, 2]) rfl ?_
 refine RN.p rfl (p_taOther rfl Tryz.underlying51 ti_51 rfl (by decide)) ?_
 refine RN.p rfl (p_extract rfl rfl rfl) ?_
 refine RN.p rfl (p_extract rfl rfl rfl) ?_
 refine RN.nil ?_
 refine hK4 _ _ ?_
 refine T.cond_f rfl ?_
 refine T.seq fun K5 hK5 => ?_
 refine T.region (l := [0, 1, 2]) rfl ?_
 refine RN.p rfl (p_taOther rfl Tryz.underlying46 ti_46 rfl (by decide)) ?_
 refine RN.p rfl (p_extract rfl rfl rfl) ?_
 refine RN.p rfl (p_extract rfl rfl rfl) ?_
 refine RN.nil ?_
 refine hK5 _ _ ?_
 refine T.cond_f rfl ?_
 refine T.seq fun K6 hK6 => ?_
 refine T.region (l := [0, 1, 2]) rfl ?_
 refine RN.p rfl (p_taYes rfl Tryz.underlying52 rfl) ?_
 refine RN.p rfl (p_extract rfl rfl rfl) ?_
 refine RN.p rfl (p_extract rfl rfl rfl) ?_
 refine RN.nil ?_
 refine hK6 _ _ ?_
 refine T.cond_t rfl ?_
 refine T.seq fun K7 hK7 => ?_
 refine T.region (l := [0, 1]) rfl ?_
 refine RN.E rfl rfl rfl rfl (e_alloc rfl ti_52) ?_
 rintro _ _ ⟨b6, rfl, rfl⟩
 refine RN.EN rfl rfl rfl (e_storeA (vs := [iC a, iC b]) rfl ts_52 rfl rfl rfl (by intro u hu; simp only [List.mem_cons, List.not_mem_nil, or_false] at hu; rcases hu with rfl | rfl <;> rfl) (i := 0) rfl (Nat.le_refl 2)) ?_
 rintro _ _ ⟨rfl, rfl⟩
 refine RN.nil ?_
 refine hK7 _ _ ?_
 refine T.seq fun K8 hK8 => ?_
 refine T.region (l := [0, 1, 2, 3, 4, 5, 6]) rfl ?_
 refine RN.p rfl (p_fieldAddr rfl fa_52_0 rfl) ?_
 refine RN.u rfl (q_load (v := iC a) rfl sc_3 rfl (i := 0) rfl rfl) ?_
 refine RN.p rfl (p_fieldAddr rfl fa_52_1 rfl) ?_
 refine RN.u rfl (q_load (v := iC b) rfl sc_3 rfl (i := 0) rfl rfl) ?_
 refine RN.p rfl (p_build rfl pl_31 ti_31 (by dsimp [layAll, lay]; rfl)) ?_
 refine RN.EN rfl rfl rfl (e_storeA (vs := rcC (Cm.mk 116 a b [])) rfl ts_31 rfl rfl rfl rc_one (i := 1) rfl (Nat.le_refl 4)) ?_
 rintro _ _ ⟨rfl, rfl⟩
 refine RN.a rfl ?_
 refine RN.nil ?_
 refine hK8 _ _ ?_
 refine T.ret ?_
 refine Post.block_r ?_
 refine Post.seq_r ?_
 refine bodyQ_ret [] (RetRun.cell rfl (load_cell (vs := rcC (Cm.mk 116 a b [])) ag_31 ts_31 (i := 1) rfl (Nat.le_refl 4) rfl) (RetRun.tmp RetRun.nil)) ⟨rfl, rfl⟩ (Ent.pull_drop (is := [2]) rfl)

theorem OfCut_spec (a : Int) : Ctr Tryz.prog 8 [.iface 54 (.agg #[iC a])] [] (fun w Ps => w = .tuple #[.agg (rcC (Cm.mk 99 a 0 [])).toArray, .bool true] ∧ Ps = []) := by
 refine Ctr.of_body Tryz.func8 rfl (by kernel_rfl) Tryz.ntmps8 rfl rfl (fun Fr => ?_)
 refine T.seq fun K1 hK1 => ?_
 refine T.region (l := [0, 1]) rfl ?_
 refine RN.E rfl rfl rfl rfl (e_alloc rfl ti_31) ?_
 rintro _ _ ⟨b2, rfl, rfl⟩
 refine RN.a rfl ?_
 refine RN.nil ?_
 refine hK1 _ _ ?_
 refine T.seq fun K2 hK2 => ?_
 refine T.seq fun K3 hK3 => ?_
 refine T.region (l := [0]) rfl ?_
 refine RN.m rfl ?_
 refine RN.nil ?_
 refine hK3 _ _ ?_
 refine T.block ?_
 refine T.seq fun K4 hK4 => ?_
 refine T.region (l := [0, 1, 2]) rfl ?_
 refine RN.p rfl (p_taOther rfl Tryz.underlying51 ti_51 rfl (by decide)) ?_
 refine RN.p rfl (p_extract rfl rfl rfl) ?_
 refine RN.p rfl (p_extract rfl rfl rfl) ?_
 refine RN.nil ?_
 refine hK4 _ _ ?_
 refine T.cond_f rfl ?_
 refine T.seq fun K5 hK5 => ?_
 refine T.region (l := [0, 1, 2]) rfl ?_
 refine RN.p rfl (p_taOther rfl Tryz.underlying46 ti_46 rfl (by decide)) ?_
 refine RN.p rfl (p_extract rfl rfl rfl) ?_
 refine RN.p rfl (p_extract rfl rfl rfl) ?_
 refine RN.nil ?_
 refine hK5 _ _ ?_
 refine T.cond_f rfl ?_
 refine T.seq fun K6 hK6 => ?_
 refine T.region (l := [0, 1, 2]) rfl ?_
 refine RN.p rfl (p_taOther rfl Tryz.underlying52 ti_52 rfl (by decide)) ?_
 refine RN.p rfl (p_extract rfl rfl rfl) ?_
 refine RN.p rfl (p_extract rfl rfl rfl) ?_
 refine RN.nil ?_
 refine hK6 _ _ ?_
 refine T.cond_f rfl ?_
 refine T.seq fun K7 hK7 => ?_
 refine T.region (l := [0, 1, 2]) rfl ?_
 refine RN.p rfl (p_taYes rfl Tryz.underlying54 rfl) ?_
 refine RN.p rfl (p_extract rfl rfl rfl) ?_
 refine RN.p rfl (p_extract rfl rfl rfl) ?_
 refine RN.nil ?_
 refine hK7 _ _ ?_
 refine T.cond_t rfl ?_
 refine T.seq fun K8 hK8 => ?_
 refine T.region (l := [0, 1]) rfl ?_
 refine RN.E rfl rfl rfl rfl (e_alloc rfl ti_54) ?_
 rintro _ _ ⟨b7, rfl, rfl⟩
 refine RN.EN rfl rfl rfl (e_storeA (vs := [iC a]) rfl ts_54 rfl rfl rfl (by intro u hu; simp only [List.mem_cons, List.not_mem_nil, or_false] at hu; subst hu; rfl) (i := 0) rfl (Nat.le_refl 1)) ?_
 rintro _ _ ⟨rfl, rfl⟩
 refine RN.nil ?_
 refine hK8 _ _ ?_
 refine T.seq fun K9 hK9 => ?_
 refine T.region (l := [0, 1, 2, 3, 4]) rfl ?_
 refine RN.p rfl (p_fieldAddr rfl fa_54_0 rfl) ?_
 refine RN.u rfl (q_load (v := iC a) rfl sc_3 rfl (i := 0) rfl rfl) ?_
 refine RN.p rfl (p_build rfl pl_31 ti_31 (by dsimp [layAll, lay]; rfl)) ?_
 refine RN.EN rfl rfl rfl (e_storeA (vs := rcC (Cm.mk 99 a 0 [])) rfl ts_31 rfl rfl rfl rc_one (i := 1) rfl (Nat.le_refl 4)) ?_
 rintro _ _ ⟨rfl, rfl⟩
 refine RN.a rfl ?_
 refine RN.nil ?_
 refine hK9 _ _ ?_
 refine T.ret ?_
 refine Post.block_r ?_
 refine Post.seq_r ?_
 refine bodyQ_ret [] (RetRun.cell rfl (load_cell (vs := rcC (Cm.mk 99 a 0 [])) ag_31 ts_31 (i := 1) rfl (Nat.le_refl 4) rfl) (RetRun.tmp RetRun.nil)) ⟨rfl, rfl⟩ (Ent.pull_drop (is := [2]) rfl)

theorem OfFail_spec (a : Int) : Ctr Tryz.prog 8 [.iface 55 (.agg #[iC a])] [] (fun w Ps => w = .tuple #[.agg (rcC (Cm.mk 102 a 0 [])).toArray, .bool true] ∧ Ps = []) := by
 refine Ctr.of_body Tryz.func8 rfl (by kernel_rfl) Tryz.ntmps8 rfl rfl (fun Fr => ?_)
 refine T.seq fun K1 hK1 => ?_
 refine T.region (l := [0, 1]) rfl ?_
 refine RN.E rfl rfl rfl rfl (e_alloc rfl ti_31) ?_
 rintro _ _ ⟨b2, rfl, rfl⟩
 refine RN.a rfl ?_
 refine RN.nil ?_
 refine hK1 _ _ ?_
 refine T.seq fun K2 hK2 => ?_
 refine T.seq fun K3 hK3 => ?_
 refine T.region (l := [0]) rfl ?_
 refine RN.m rfl ?_
 refine RN.nil ?_
 refine hK3 _ _ ?_
 refine T.block ?_
 refine T.seq fun K4 hK4 => ?_
 refine T.region (l := [0, 1, 2]) rfl ?_
 refine RN.p rfl (p_taOther rfl Tryz.underlying51 ti_51 rfl (by decide)) ?_
 refine RN.p rfl (p_extract rfl rfl rfl) ?_
 refine RN.p rfl (p_extract rfl rfl rfl) ?_
 refine RN.nil ?_
 refine hK4 _ _ ?_
 refine T.cond_f rfl ?_
 refine T.seq fun K5 hK5 => ?_
 refine T.region (l := [0, 1, 2]) rfl ?_
 refine RN.p rfl (p_taOther rfl Tryz.underlying46 ti_46 rfl (by decide)) ?_
 refine RN.p rfl (p_extract rfl rfl rfl) ?_
 refine RN.p rfl (p_extract rfl rfl rfl) ?_
 refine RN.nil ?_
 refine hK5 _ _ ?_
 refine T.cond_f rfl ?_
 refine T.seq fun K6 hK6 => ?_
 refine T.region (l := [0, 1, 2]) rfl ?_
 refine RN.p rfl (p_taOther rfl Tryz.underlying52 ti_52 rfl (by decide)) ?_
 refine RN.p rfl (p_extract rfl rfl rfl) ?_
 refine RN.p rfl (p_extract rfl rfl rfl) ?_
 refine RN.nil ?_
 refine hK6 _ _ ?_
 refine T.cond_f rfl ?_
 refine T.seq fun K7 hK7 => ?_
 refine T.region (l := [0, 1, 2]) rfl ?_
 refine RN.p rfl (p_taOther rfl Tryz.underlying54 ti_54 rfl (by decide)) ?_
 refine RN.p rfl (p_extract rfl rfl rfl) ?_
 refine RN.p rfl (p_extract rfl rfl rfl) ?_
 refine RN.nil ?_
 refine hK7 _ _ ?_
 refine T.cond_f rfl ?_
 refine T.seq fun K8 hK8 => ?_
 refine T.region (l := [0, 1, 2]) rfl ?_
 refine RN.p rfl (p_taYes rfl Tryz.underlying55 rfl) ?_
 refine RN.p rfl (p_extract rfl rfl rfl) ?_
 refine RN.p rfl (p_extract rfl rfl rfl) ?_
 refine RN.nil ?_
 refine hK8 _ _ ?_
 refine T.cond_t rfl ?_
 refine T.seq fun K9 hK9 => ?_
 refine T.region (l := [0, 1]) rfl ?_
 refine RN.E rfl rfl rfl rfl (e_alloc rfl ti_55) ?_
 rintro _ _ ⟨b8, rfl, rfl⟩
 refine RN.EN rfl rfl rfl (e_storeA (vs := [iC a]) rfl ts_55 rfl rfl rfl (by intro u hu; simp only [List.mem_cons, List.not_mem_nil, or_false] at hu; subst hu; rfl) (i := 0) rfl (Nat.le_refl 1)) ?_
 rintro _ _ ⟨rfl, rfl⟩
 refine RN.nil ?_
 refine hK9 _ _ ?_
 refine T.seq fun K10 hK10 => ?_
 refine T.region (l := [0, 1, 2, 3, 4]) rfl ?_
 refine RN.p rfl (p_fieldAddr rfl fa_55_0 rfl) ?_
 refine RN.u rfl (q_load (v := iC a) rfl sc_3 rfl (i := 0) rfl rfl) ?_
 refine RN.p rfl (p_build rfl pl_31 ti_31 (by dsimp [layAll, lay]; rfl)) ?_
 refine RN.EN rfl rfl rfl (e_storeA (vs := rcC (Cm.mk 102 a 0 [])) rfl ts_31 rfl rfl rfl rc_one (i := 1) rfl (Nat.le_refl 4)) ?_
 rintro _ _ ⟨rfl, rfl⟩
 refine RN.a rfl ?_
 refine RN.nil ?_
 refine hK10 _ _ ?_
 refine T.ret ?_
 refine Post.block_r ?_
 refine Post.seq_r ?_
 refine bodyQ_ret [] (RetRun.cell rfl (load_cell (vs := rcC (Cm.mk 102 a 0 [])) ag_31 ts_31 (i := 1) rfl (Nat.le_refl 4) rfl) (RetRun.tmp RetRun.nil)) ⟨rfl, rfl⟩ (Ent.pull_drop (is := [2]) rfl)

theorem OfMount_spec (a : Int) : Ctr Tryz.prog 8 [.iface 56 (.agg #[iC a])] [] (fun w Ps => w = .tuple #[.agg (rcC (Cm.mk 109 a 0 [])).toArray, .bool true] ∧ Ps = []) := by
 refine Ctr.of_body Tryz.func8 rfl (by kernel_rfl) Tryz.ntmps8 rfl rfl (fun Fr => ?_)
 refine T.seq fun K1 hK1 => ?_
 refine T.region (l := [0, 1]) rfl ?_
 refine RN.E rfl rfl rfl rfl (e_alloc rfl ti_31) ?_
 rintro _ _ ⟨b2, rfl, rfl⟩
 refine RN.a rfl ?_
 refine RN.nil ?_
 refine hK1 _ _ ?_
 refine T.seq fun K2 hK2 => ?_
 refine T.seq fun K3 hK3 => ?_
 refine T.region (l := [0]) rfl ?_
 refine RN.m rfl ?_
 refine RN.nil ?_
 refine hK3 _ _ ?_
 refine T.block ?_
 refine T.seq fun K4 hK4 => ?_
 refine T.region (l := [0, 1, 2]) rfl ?_
 refine RN.p rfl (p_taOther rfl Tryz.underlying51 ti_51 rfl (by decide)) ?_
 refine RN.p rfl (p_extract rfl rfl rfl) ?_
 refine RN.p rfl (p_extract rfl rfl rfl) ?_
 refine RN.nil ?_
 refine hK4 _ _ ?_
 refine T.cond_f rfl ?_
 refine T.seq fun K5 hK5 => ?_
 refine T.region (l := [0, 1, 2]) rfl ?_
 refine RN.p rfl (p_taOther rfl Tryz.underlying46 ti_46 rfl (by decide)) ?_
 refine RN.p rfl (p_extract rfl rfl rfl) ?_
 refine RN.p rfl (p_extract rfl rfl rfl) ?_
 refine RN.nil ?_
 refine hK5 _ _ ?_
 refine T.cond_f rfl ?_
 refine T.seq fun K6 hK6 => ?_
 refine T.region (l := [0, 1, 2]) rfl ?_
 refine RN.p rfl (p_taOther rfl Tryz.underlying52 ti_52 rfl (by decide)) ?_
 refine RN.p rfl (p_extract rfl rfl rfl) ?_
 refine RN.p rfl (p_extract rfl rfl rfl) ?_
 refine RN.nil ?_
 refine hK6 _ _ ?_
 refine T.cond_f rfl ?_
 refine T.seq fun K7 hK7 => ?_
 refine T.region (l := [0, 1, 2]) rfl ?_
 refine RN.p rfl (p_taOther rfl Tryz.underlying54 ti_54 rfl (by decide)) ?_
 refine RN.p rfl (p_extract rfl rfl rfl) ?_
 refine RN.p rfl (p_extract rfl rfl rfl) ?_
 refine RN.nil ?_
 refine hK7 _ _ ?_
 refine T.cond_f rfl ?_
 refine T.seq fun K8 hK8 => ?_
 refine T.region (l := [0, 1, 2]) rfl ?_
 refine RN.p rfl (p_taOther rfl Tryz.underlying55 ti_55 rfl (by decide)) ?_
 refine RN.p rfl (p_extract rfl rfl rfl) ?_
 refine RN.p rfl (p_extract rfl rfl rfl) ?_
 refine RN.nil ?_
 refine hK8 _ _ ?_
 refine T.cond_f rfl ?_
 refine T.seq fun K9 hK9 => ?_
 refine T.region (l := [0, 1, 2]) rfl ?_
 refine RN.p rfl (p_taYes rfl Tryz.underlying56 rfl) ?_
 refine RN.p rfl (p_extract rfl rfl rfl) ?_
 refine RN.p rfl (p_extract rfl rfl rfl) ?_
 refine RN.nil ?_
 refine hK9 _ _ ?_
 refine T.cond_t rfl ?_
 refine T.seq fun K10 hK10 => ?_
 refine T.region (l := [0, 1]) rfl ?_
 refine RN.E rfl rfl rfl rfl (e_alloc rfl ti_56) ?_
 rintro _ _ ⟨b9, rfl, rfl⟩
 refine RN.EN rfl rfl rfl (e_storeA (vs := [iC a]) rfl ts_56 rfl rfl rfl (by intro u hu; simp only [List.mem_cons, List.not_mem_nil, or_false] at hu; subst hu; rfl) (i := 0) rfl (Nat.le_refl 1)) ?_
 rintro _ _ ⟨rfl, rfl⟩
 refine RN.nil ?_
 refine hK10 _ _ ?_
 refine T.seq fun K11 hK11 => ?_
 refine T.region (l := [0, 1, 2, 3, 4]) rfl ?_
 refine RN.p rfl (p_fieldAddr rfl fa_56_0 rfl) ?_
 refine RN.u rfl (q_load (v := iC a) rfl sc_3 rfl (i := 0) rfl rfl) ?_
 refine RN.p rfl (p_build rfl pl_31 ti_31 (by dsimp [layAll, lay]; rfl)) ?_
 refine RN.EN rfl rfl rfl (e_storeA (vs := rcC (Cm.mk 109 a 0 [])) rfl ts_31 rfl rfl rfl rc_one (i := 1) rfl (Nat.le_refl 4)) ?_
 rintro _ _ ⟨rfl, rfl⟩
 refine RN.a rfl ?_
 refine RN.nil ?_
 refine hK11 _ _ ?_
 refine T.ret ?_
 refine Post.block_r ?_
 refine Post.seq_r ?_
 refine bodyQ_ret [] (RetRun.cell rfl (load_cell (vs := rcC (Cm.mk 109 a 0 [])) ag_31 ts_31 (i := 1) rfl (Nat.le_refl 4) rfl) (RetRun.tmp RetRun.nil)) ⟨rfl, rfl⟩ (Ent.pull_drop (is := [2]) rfl)

theorem OfShow_spec  : Ctr Tryz.prog 8 [.iface 58 (.agg #[])] [] (fun w Ps => w = .tuple #[.agg (rcC (Cm.mk 115 0 0 [])).toArray, .bool true] ∧ Ps = []) := by
 refine Ctr.of_body Tryz.func8 rfl (by kernel_rfl) Tryz.ntmps8 rfl rfl (fun Fr => ?_)
 refine T.seq fun K1 hK1 => ?_
 refine T.region (l := [0, 1]) rfl ?_
 refine RN.E rfl rfl rfl rfl (e_alloc rfl ti_31) ?_
 rintro _ _ ⟨b2, rfl, rfl⟩
 refine RN.a rfl ?_
 refine RN.nil ?_
 refine hK1 _ _ ?_
 refine T.seq fun K2 hK2 => ?_
 refine T.seq fun K3 hK3 => ?_
 refine T.region (l := [0]) rfl ?_
 refine RN.m rfl ?_
 refine RN.nil ?_
 refine hK3 _ _ ?_
 refine T.block ?_
 refine T.seq fun K4 hK4 => ?_
 refine T.region (l := [0, 1, 2]) rfl ?_
 refine RN.p rfl (p_taOther rfl Tryz.underlying51 ti_51 rfl (by decide)) ?_
 refine RN.p rfl (p_extract rfl rfl rfl) ?_
 refine RN.p rfl (p_extract rfl rfl rfl) ?_
 refine RN.nil ?_
 refine hK4 _ _ ?_
 refine T.cond_f rfl ?_
 refine T.seq fun K5 hK5 => ?_
 refine T.region (l := [0, 1, 2]) rfl ?_
 refine RN.p rfl (p_taOther rfl Tryz.underlying46 ti_46 rfl (by decide)) ?_
 refine RN.p rfl (p_extract rfl rfl rfl) ?_
 refine RN.p rfl (p_extract rfl rfl rfl) ?_
 refine RN.nil ?_
 refine hK5 _ _ ?_
 refine T.cond_f rfl ?_
 refine T.seq fun K6 hK6 => ?_
 refine T.region (l := [0, 1, 2]) rfl ?_
 refine RN.p rfl (p_taOther rfl Tryz.underlying52 ti_52 rfl (by decide)) ?_
 refine RN.p rfl (p_extract rfl rfl rfl) ?_
 refine RN.p rfl (p_extract rfl rfl rfl) ?_
 refine RN.nil ?_
 refine hK6 _ _ ?_
 refine T.cond_f rfl ?_
 refine T.seq fun K7 hK7 => ?_
 refine T.region (l := [0, 1, 2]) rfl ?_
 refine RN.p rfl (p_taOther rfl Tryz.underlying54 ti_54 rfl (by decide)) ?_
 refine RN.p rfl (p_extract rfl rfl rfl) ?_
 refine RN.p rfl (p_extract rfl rfl rfl) ?_
 refine RN.nil ?_
 refine hK7 _ _ ?_
 refine T.cond_f rfl ?_
 refine T.seq fun K8 hK8 => ?_
 refine T.region (l := [0, 1, 2]) rfl ?_
 refine RN.p rfl (p_taOther rfl Tryz.underlying55 ti_55 rfl (by decide)) ?_
 refine RN.p rfl (p_extract rfl rfl rfl) ?_
 refine RN.p rfl (p_extract rfl rfl rfl) ?_
 refine RN.nil ?_
 refine hK8 _ _ ?_
 refine T.cond_f rfl ?_
 refine T.seq fun K9 hK9 => ?_
 refine T.region (l := [0, 1, 2]) rfl ?_
 refine RN.p rfl (p_taOther rfl Tryz.underlying56 ti_56 rfl (by decide)) ?_
 refine RN.p rfl (p_extract rfl rfl rfl) ?_
 refine RN.p rfl (p_extract rfl rfl rfl) ?_
 refine RN.nil ?_
 refine hK9 _ _ ?_
 refine T.cond_f rfl ?_
 refine T.seq fun K10 hK10 => ?_
 refine T.region (l := [0, 1, 2]) rfl ?_
 refine RN.p rfl (p_taYes rfl Tryz.underlying58 rfl) ?_
 refine RN.p rfl (p_extract rfl rfl rfl) ?_
 refine RN.p rfl (p_extract rfl rfl rfl) ?_
 refine RN.nil ?_
 refine hK10 _ _ ?_
 refine T.cond_t rfl ?_
 refine T.seq fun K11 hK11 => ?_
 refine T.region (l := [0, 1]) rfl ?_
 refine RN.E rfl rfl rfl rfl (e_alloc rfl ti_58) ?_
 rintro _ _ ⟨b10, rfl, rfl⟩
 refine RN.EN rfl rfl rfl (e_storeA (vs := []) rfl ts_58 rfl rfl rfl (fun u hu => by cases hu) (i := 0) rfl (Nat.le_refl 0)) ?_
 rintro _ _ ⟨rfl, rfl⟩
 refine RN.nil ?_
 refine hK11 _ _ ?_
 refine T.seq fun K12 hK12 => ?_
 refine T.region (l := [0, 1, 2]) rfl ?_
 refine RN.p rfl (p_build rfl pl_31 ti_31 (by dsimp [layAll, lay]; rfl)) ?_
 refine RN.EN rfl rfl rfl (e_storeA (vs := rcC (Cm.mk 115 0 0 [])) rfl ts_31 rfl rfl rfl rc_one (i := 1) rfl (Nat.le_refl 4)) ?_
 rintro _ _ ⟨rfl, rfl⟩
 refine RN.a rfl ?_
 refine RN.nil ?_
 refine hK12 _ _ ?_
 refine T.ret ?_
 refine Post.block_r ?_
 refine Post.seq_r ?_
 refine bodyQ_ret [] (RetRun.cell rfl (load_cell (vs := rcC (Cm.mk 115 0 0 [])) ag_31 ts_31 (i := 1) rfl (Nat.le_refl 4) rfl) (RetRun.tmp RetRun.nil)) ⟨rfl, rfl⟩ (Ent.pull_drop (is := [2]) rfl)

theorem OfStat_spec  : Ctr Tryz.prog 8 [.iface 59 (.agg #[])] [] (fun w Ps => w = .tuple #[.agg (rcC (Cm.mk 105 0 0 [])).toArray, .bool true] ∧ Ps = []) := by
 refine Ctr.of_body Tryz.func8 rfl (by kernel_rfl) Tryz.ntmps8 rfl rfl (fun Fr => ?_)
 refine T.seq fun K1 hK1 => ?_
 refine T.region (l := [0, 1]) rfl ?_
 refine RN.E rfl rfl rfl rfl (e_alloc rfl ti_31) ?_
 rintro _ _ ⟨b2, rfl, rfl⟩
 refine RN.a rfl ?_
 refine RN.nil ?_
 refine hK1 _ _ ?_
 refine T.seq fun K2 hK2 => ?_
 refine T.seq fun K3 hK3 => ?_
 refine T.region (l := [0]) rfl ?_
 refine RN.m rfl ?_
 refine RN.nil ?_
 refine hK3 _ _ ?_
 refine T.block ?_
 refine T.seq fun K4 hK4 => ?_
 refine T.region (l := [0, 1, 2]) rfl ?_
 refine RN.p rfl (p_taOther rfl Tryz.underlying51 ti_51 rfl (by decide)) ?_
 refine RN.p rfl (p_extract rfl rfl rfl) ?_
 refine RN.p rfl (p_extract rfl rfl rfl) ?_
 refine RN.nil ?_
 refine hK4 _ _ ?_
 refine T.cond_f rfl ?_
 refine T.seq fun K5 hK5 => ?_
 refine T.region (l := [0, 1, 2]) rfl ?_
 refine RN.p rfl (p_taOther rfl Tryz.underlying46 ti_46 rfl (by decide)) ?_
 refine RN.p rfl (p_extract rfl rfl rfl) ?_
 refine RN.p rfl (p_extract rfl rfl rfl) ?_
 refine RN.nil ?_
 refine hK5 _ _ ?_
 refine T.cond_f rfl ?_
 refine T.seq fun K6 hK6 => ?_
 refine T.region (l := [0, 1, 2]) rfl ?_
 refine RN.p rfl (p_taOther rfl Tryz.underlying52 ti_52 rfl (by decide)) ?_
 refine RN.p rfl (p_extract rfl rfl rfl) ?_
 refine RN.p rfl (p_extract rfl rfl rfl) ?_
 refine RN.nil ?_
 refine hK6 _ _ ?_
 refine T.cond_f rfl ?_
 refine T.seq fun K7 hK7 => ?_
 refine T.region (l := [0, 1, 2]) rfl ?_
 refine RN.p rfl (p_taOther rfl Tryz.underlying54 ti_54 rfl (by decide)) ?_
 refine RN.p rfl (p_extract rfl rfl rfl) ?_
 refine RN.p rfl (p_extract rfl rfl rfl) ?_
 refine RN.nil ?_
 refine hK7 _ _ ?_
 refine T.cond_f rfl ?_
 refine T.seq fun K8 hK8 => ?_
 refine T.region (l := [0, 1, 2]) rfl ?_
 refine RN.p rfl (p_taOther rfl Tryz.underlying55 ti_55 rfl (by decide)) ?_
 refine RN.p rfl (p_extract rfl rfl rfl) ?_
 refine RN.p rfl (p_extract rfl rfl rfl) ?_
 refine RN.nil ?_
 refine hK8 _ _ ?_
 refine T.cond_f rfl ?_
 refine T.seq fun K9 hK9 => ?_
 refine T.region (l := [0, 1, 2]) rfl ?_
 refine RN.p rfl (p_taOther rfl Tryz.underlying56 ti_56 rfl (by decide)) ?_
 refine RN.p rfl (p_extract rfl rfl rfl) ?_
 refine RN.p rfl (p_extract rfl rfl rfl) ?_
 refine RN.nil ?_
 refine hK9 _ _ ?_
 refine T.cond_f rfl ?_
 refine T.seq fun K10 hK10 => ?_
 refine T.region (l := [0, 1, 2]) rfl ?_
 refine RN.p rfl (p_taOther rfl Tryz.underlying58 ti_58 rfl (by decide)) ?_
 refine RN.p rfl (p_extract rfl rfl rfl) ?_
 refine RN.p rfl (p_extract rfl rfl rfl) ?_
 refine RN.nil ?_
 refine hK10 _ _ ?_
 refine T.cond_f rfl ?_
 refine T.seq fun K11 hK11 => ?_
 refine T.region (l := [0, 1, 2]) rfl ?_
 refine RN.p rfl (p_taYes rfl Tryz.underlying59 rfl) ?_
 refine RN.p rfl (p_extract rfl rfl rfl) ?_
 refine RN.p rfl (p_extract rfl rfl rfl) ?_
 refine RN.nil ?_
 refine hK11 _ _ ?_
 refine T.cond_t rfl ?_
 refine T.seq fun K12 hK12 => ?_
 refine T.region (l := [0, 1]) rfl ?_
 refine RN.E rfl rfl rfl rfl (e_alloc rfl ti_59) ?_
 rintro _ _ ⟨b11, rfl, rfl⟩
 refine RN.EN rfl rfl rfl (e_storeA (vs := []) rfl ts_59 rfl rfl rfl (fun u hu => by cases hu) (i := 0) rfl (Nat.le_refl 0)) ?_
 rintro _ _ ⟨rfl, rfl⟩
 refine RN.nil ?_
 refine hK12 _ _ ?_
 refine T.seq fun K13 hK13 => ?_
 refine T.region (l := [0, 1, 2]) rfl ?_
 refine RN.p rfl (p_build rfl pl_31 ti_31 (by dsimp [layAll, lay]; rfl)) ?_
 refine RN.EN rfl rfl rfl (e_storeA (vs := rcC (Cm.mk 105 0 0 [])) rfl ts_31 rfl rfl rfl rc_one (i := 1) rfl (Nat.le_refl 4)) ?_
 rintro _ _ ⟨rfl, rfl⟩
 refine RN.a rfl ?_
 refine RN.nil ?_
 refine hK13 _ _ ?_
 refine T.ret ?_
 refine Post.block_r ?_
 refine Post.seq_r ?_
 refine bodyQ_ret [] (RetRun.cell rfl (load_cell (vs := rcC (Cm.mk 105 0 0 [])) ag_31 ts_31 (i := 1) rfl (Nat.le_refl 4) rfl) (RetRun.tmp RetRun.nil)) ⟨rfl, rfl⟩ (Ent.pull_drop (is := [2]) rfl)

theorem Of_spec (c : Cm) (hc : CmW c) : Ctr Tryz.prog 8 [cmV c] [] (fun w Ps => w = .tuple #[.agg (rcC c).toArray, .bool true] ∧ Ps = []) := by
 obtain ⟨k, a, b, s⟩ := c
 have h := hc.kind
 rcases h with rfl | ⟨rfl, rfl | rfl | ⟨rfl, rfl | rfl | rfl | ⟨rfl, rfl | rfl⟩⟩⟩
 · exact OfWrite_spec a b s
 · exact OfRead_spec a b
 · exact OfTrim_spec a b
 · exact OfCut_spec a
 · exact OfFail_spec a
 · exact OfMount_spec a
 · exact OfShow_spec
 · exact OfStat_spec
/-- Which function tells a command of this kind. -/
def fT (k : Nat) : Nat := if k = 114 then 122 else if k = 119 then 120 else if k = 116 then 123 else if k = 99 then 124 else if k = 102 then 125 else if k = 109 then 126 else if k = 115 then 127 else 128
/-- What a command's value holds. -/
def payV (c : Cm) : Value := .agg (if c.kind = 114 then #[iC c.a, iC c.b] else if c.kind = 119 then #[iC c.a, iC c.b, strV c.data] else if c.kind = 116 then #[iC c.a, iC c.b] else if c.kind = 99 then #[iC c.a] else if c.kind = 102 then #[iC c.a] else if c.kind = 109 then #[iC c.a] else #[])
theorem c_text {e : Env} {o : Oper} {x : Operand} {c : Cm} (hc : CmOk c) (hop : o.op = .call { callee := .invoke x "Text", args := #[], argTypes := #[] }) (hr : ev e x = cmV c) : CRun Tryz.prog e o (fT c.kind) [payV c] := by
 obtain ⟨k, a, b, s⟩ := c
 have h := hc.kind
 rcases h with rfl | ⟨rfl, rfl | rfl | ⟨rfl, rfl | rfl | rfl | ⟨rfl, rfl | rfl⟩⟩⟩
 · exact c_invoke (t := 46) hop hr (by kernel_rfl)
 · exact c_invoke (t := 51) hop hr (by kernel_rfl)
 · exact c_invoke (t := 52) hop hr (by kernel_rfl)
 · exact c_invoke (t := 54) hop hr (by kernel_rfl)
 · exact c_invoke (t := 55) hop hr (by kernel_rfl)
 · exact c_invoke (t := 56) hop hr (by kernel_rfl)
 · exact c_invoke (t := 58) hop hr (by kernel_rfl)
 · exact c_invoke (t := 59) hop hr (by kernel_rfl)
theorem Text_spec (A : Assn) (hA : Glob 1 2 A) (hB : Glob2 Tryz.prog 0 A) (c : Cm) (hc : CmOk c) : Ctr Tryz.prog (fT c.kind) [payV c] [A] (fun w Ps => w = strV (textF c) ∧ Ps = [A]) := by
 obtain ⟨k, a, b, s⟩ := c
 have h := hc.kind
 have ha := hc.a
 have hb := hc.b
 have hd := hc.data
 rcases h with rfl | ⟨rfl, rfl | rfl | ⟨rfl, rfl | rfl | rfl | ⟨rfl, rfl | rfl⟩⟩⟩
 · exact TWrite_spec A hA hB a b s ha hb hd
 · exact TRead_spec A hB a b ha hb
 · exact TTrim_spec A hB a b ha hb
 · exact TCut_spec A hB a ha
 · exact TFail_spec A hB a ha
 · exact TMount_spec A hB a ha
 · exact TShow_spec A
 · exact TStat_spec A
theorem keyRC : KeyTy Tryz.prog 31 := ⟨by kernel_rfl, by kernel_rfl, by kernel_rfl, by kernel_rfl⟩
theorem lit_u8 {n : Nat} (d : Nat) (h : n < 256) : Tryz.prog.keyLits (d + 1) 5 [kC n] = some [.int .u8 (n : Int)] := by
 unfold Program.keyLits
 rw [Tryz.underlying5]
 have : (Lit.int .u8 (n : Int)).wf = true := by
  simp [Lit.wf, IntKind.min, IntKind.max, IntKind.signed, IntKind.bits]
  omega
 simp [kC, this]
theorem lit_i64 {n : Int} (d : Nat) (h : -999999999 ≤ n ∧ n ≤ 999999999) : Tryz.prog.keyLits (d + 1) 3 [iC n] = some [.int .i64 n] := by
 unfold Program.keyLits
 rw [Tryz.underlying3]
 have : (Lit.int .i64 n).wf = true := by
  simp [Lit.wf, IntKind.min, IntKind.max, IntKind.signed, IntKind.bits]
  omega
 simp [iC, this]
theorem lit_str {l : List UInt8} (d : Nat) (h : l.length ≤ 100000000) : Tryz.prog.keyLits (d + 1) 9 [strV l] = some [.string l] := by
 unfold Program.keyLits
 rw [Tryz.underlying9]
 have : (ByteArray.mk l.toArray).size ≤ maxLen := by show l.toArray.size ≤ 9223372036854775807; simp; omega
 simp [strV, this]
theorem plainRC {c : Cm} (hc : CmOk c) : Plain Tryz.prog 31 (rcC c) := by
 have hk : c.kind < 256 := by have := hc.kind; omega
 refine ⟨3, [.int .u8 (c.kind : Int), .int .i64 c.a, .int .i64 c.b, .string c.data], ?_⟩
 unfold Program.keyLits
 rw [Tryz.underlying31]
 have hcl : Tryz.prog.cellsOf 31 = 4 := by kernel_rfl
 have c3 : Tryz.prog.cellsOf 3 = 1 := by kernel_rfl
 have c5 : Tryz.prog.cellsOf 5 = 1 := by kernel_rfl
 have c9 : Tryz.prog.cellsOf 9 = 1 := by kernel_rfl
 have hl : (rcC c).length = 4 := rfl
 simp only [hcl, hl]
 rw [if_pos ⟨trivial, by decide +kernel⟩]
 simp only [rcC, List.mapM_cons, List.mapM_nil, c3, c5, c9, List.drop_zero, List.drop_succ_cons, List.take_succ_cons, List.take_zero, lit_u8 1 hk, lit_i64 1 hc.a, lit_i64 1 hc.b, lit_str 1 hc.data]
 rfl
theorem cm_row {cs : List Cm} {rest : List Value} {i : Nat} (hi : i < cs.length) : (cs.map cmV ++ rest)[0 + i]? = some (cmV cs[i]) := by
 rw [Nat.zero_add, List.getElem?_append_left (by simpa using hi), List.getElem?_map, List.getElem?_eq_getElem hi]
 rfl
end Go.Proofs.YtokbjejbgbdkoaaGreatDoor
