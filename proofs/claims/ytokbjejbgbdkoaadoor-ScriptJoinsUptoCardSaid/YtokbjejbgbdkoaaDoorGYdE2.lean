/-
 Commands told: walked.
-/
import Derived.Test.YtokbjejbgbdkoaaDoorGYdD1
import Derived.Test.YtokbjejbgbdkoaaDoorGSl23
import Derived.Test.YtokbjejbgbdkoaaDoorGSl12
set_option linter.unusedVariables false
set_option linter.unusedSimpArgs false
namespace Go.Proofs.YtokbjejbgbdkoaaDoor
open Go Go.Sl Go.Proofs
set_option maxRecDepth 20000
open Go.Mo Go.Proofs Go.Shelf Go.RowKit
theorem told_two (w : List UInt8) (a b : Int) : w ++ (([a, b] : List Int).map nT).flatten = w ++ nT a ++ nT b := by simp
theorem told_one (w : List UInt8) (a : Int) : w ++ (([a] : List Int).map nT).flatten = w ++ nT a := by simp
theorem two_bd {a b : Int} (ha : -999999999 ≤ a ∧ a ≤ 999999999) (hb : -999999999 ≤ b ∧ b ≤ 999999999) : ∀ v ∈ [a, b], -999999999 ≤ v ∧ v ≤ 999999999 := fun v hv => by
 simp only [List.mem_cons, List.not_mem_nil, or_false] at hv
 rcases hv with rfl | rfl
 · exact ha
 · exact hb
theorem one_bd {a : Int} (ha : -999999999 ≤ a ∧ a ≤ 999999999) : ∀ v ∈ [a], -999999999 ≤ v ∧ v ≤ 999999999 := fun v hv => by rw [List.mem_singleton.1 hv]; exact ha
theorem nT_len {a : Int} (ha : -999999999 ≤ a ∧ a ≤ 999999999) : (nT a).length ≤ 11 := by have := itoa_len ha; unfold nT; rw [List.length_cons]; omega
theorem Qt_len (s : List UInt8) : (Qt s).length ≤ 6 * s.length + 2 := by
 have := qI_len _ s (Nat.le_refl _)
 unfold Qt
 simp only [List.length_cons, List.length_append, List.length_nil]
 omega

theorem TRead_spec (A : Assn) (hB : Glob2 Tryd.prog 0 A) (a b : Int) (ha : -999999999 ≤ a ∧ a ≤ 999999999) (hb : -999999999 ≤ b ∧ b ≤ 999999999) : Ctr Tryd.prog 105 [.agg #[iC a, iC b]] [A] (fun w Ps => w = strV (wRead ++ nT a ++ nT b) ∧ Ps = [A]) := by
 refine Ctr.of_body Tryd.func105 rfl (by kernel_rfl) Tryd.ntmps105 rfl rfl (fun Fr => ?_)
 refine T.seq fun K1 hK1 => ?_
 refine T.region (l := [0, 1]) rfl ?_
 refine RN.E rfl rfl rfl rfl (e_box (vs := [iC a, iC b]) rfl rfl rfl) ?_
 rintro _ _ ⟨b1, rfl, rfl⟩
 refine RN.a rfl ?_
 refine RN.nil ?_
 refine hK1 _ _ ?_
 refine T.seq fun K2 hK2 => ?_
 refine T.region (l := [0, 1, 2, 3, 4, 5, 6]) rfl ?_
 refine RN.p rfl (p_fieldAddr rfl fa_42_0 rfl) ?_
 refine RN.u rfl (q_load rfl sc_3 rfl (i := 0) rfl rfl) ?_
 refine RN.p rfl (p_fieldAddr rfl fa_42_1 rfl) ?_
 refine RN.u rfl (q_load rfl sc_3 rfl (i := 0) rfl rfl) ?_
 refine RN.E rfl rfl rfl rfl (e_buildSlice rfl Tryd.underlying63 ti_3 rfl (by decide) rfl (by simp)) ?_
 rintro _ _ ⟨b7, rfl, rfl⟩
 refine RN.C [0, 1] rfl rfl rfl rfl (c_call rfl rfl) (Told20_spec A hB wRead b7 2 [a, b] (two_bd ha hb) (by decide) (by simp)) rfl ?_
 rintro _ _ ⟨rfl, rfl⟩
 rw [told_two]
 refine RN.a rfl ?_
 refine RN.nil ?_
 refine hK2 _ _ ?_
 refine T.ret ?_
 refine bodyQ_ret [A] (RetRun.tmp RetRun.nil) ⟨rfl, rfl⟩ (Ent.pull_drop (is := [0, 1]) rfl)

theorem TTrim_spec (A : Assn) (hB : Glob2 Tryd.prog 0 A) (a b : Int) (ha : -999999999 ≤ a ∧ a ≤ 999999999) (hb : -999999999 ≤ b ∧ b ≤ 999999999) : Ctr Tryd.prog 106 [.agg #[iC a, iC b]] [A] (fun w Ps => w = strV (wTrim ++ nT a ++ nT b) ∧ Ps = [A]) := by
 refine Ctr.of_body Tryd.func106 rfl (by kernel_rfl) Tryd.ntmps106 rfl rfl (fun Fr => ?_)
 refine T.seq fun K1 hK1 => ?_
 refine T.region (l := [0, 1]) rfl ?_
 refine RN.E rfl rfl rfl rfl (e_box (vs := [iC a, iC b]) rfl rfl rfl) ?_
 rintro _ _ ⟨b1, rfl, rfl⟩
 refine RN.a rfl ?_
 refine RN.nil ?_
 refine hK1 _ _ ?_
 refine T.seq fun K2 hK2 => ?_
 refine T.region (l := [0, 1, 2, 3, 4, 5, 6]) rfl ?_
 refine RN.p rfl (p_fieldAddr rfl fa_43_0 rfl) ?_
 refine RN.u rfl (q_load rfl sc_3 rfl (i := 0) rfl rfl) ?_
 refine RN.p rfl (p_fieldAddr rfl fa_43_1 rfl) ?_
 refine RN.u rfl (q_load rfl sc_3 rfl (i := 0) rfl rfl) ?_
 refine RN.E rfl rfl rfl rfl (e_buildSlice rfl Tryd.underlying63 ti_3 rfl (by decide) rfl (by simp)) ?_
 rintro _ _ ⟨b7, rfl, rfl⟩
 refine RN.C [0, 1] rfl rfl rfl rfl (c_call rfl rfl) (Told20_spec A hB wTrim b7 2 [a, b] (two_bd ha hb) (by decide) (by simp)) rfl ?_
 rintro _ _ ⟨rfl, rfl⟩
 rw [told_two]
 refine RN.a rfl ?_
 refine RN.nil ?_
 refine hK2 _ _ ?_
 refine T.ret ?_
 refine bodyQ_ret [A] (RetRun.tmp RetRun.nil) ⟨rfl, rfl⟩ (Ent.pull_drop (is := [0, 1]) rfl)

theorem TCut_spec (A : Assn) (hB : Glob2 Tryd.prog 0 A) (a : Int) (ha : -999999999 ≤ a ∧ a ≤ 999999999) : Ctr Tryd.prog 107 [.agg #[iC a]] [A] (fun w Ps => w = strV (wCut ++ nT a) ∧ Ps = [A]) := by
 refine Ctr.of_body Tryd.func107 rfl (by kernel_rfl) Tryd.ntmps107 rfl rfl (fun Fr => ?_)
 refine T.seq fun K1 hK1 => ?_
 refine T.region (l := [0, 1]) rfl ?_
 refine RN.E rfl rfl rfl rfl (e_box (vs := [iC a]) rfl rfl rfl) ?_
 rintro _ _ ⟨b1, rfl, rfl⟩
 refine RN.a rfl ?_
 refine RN.nil ?_
 refine hK1 _ _ ?_
 refine T.seq fun K2 hK2 => ?_
 refine T.region (l := [0, 1, 2, 3, 4]) rfl ?_
 refine RN.p rfl (p_fieldAddr rfl fa_45_0 rfl) ?_
 refine RN.u rfl (q_load rfl sc_3 rfl (i := 0) rfl rfl) ?_
 refine RN.E rfl rfl rfl rfl (e_buildSlice1 rfl Tryd.underlying63 ti_3 rfl (by conv => lhs; whnf) rfl) ?_
 rintro _ _ ⟨b5, rfl, rfl⟩
 refine RN.C [0, 1] rfl rfl rfl rfl (c_call rfl rfl) (Told20_spec A hB wCut b5 1 [a] (one_bd ha) (by decide) (by simp)) rfl ?_
 rintro _ _ ⟨rfl, rfl⟩
 rw [told_one]
 refine RN.a rfl ?_
 refine RN.nil ?_
 refine hK2 _ _ ?_
 refine T.ret ?_
 refine bodyQ_ret [A] (RetRun.tmp RetRun.nil) ⟨rfl, rfl⟩ (Ent.pull_drop (is := [0, 1]) rfl)

theorem TFail_spec (A : Assn) (hB : Glob2 Tryd.prog 0 A) (a : Int) (ha : -999999999 ≤ a ∧ a ≤ 999999999) : Ctr Tryd.prog 108 [.agg #[iC a]] [A] (fun w Ps => w = strV (wFail ++ nT a) ∧ Ps = [A]) := by
 refine Ctr.of_body Tryd.func108 rfl (by kernel_rfl) Tryd.ntmps108 rfl rfl (fun Fr => ?_)
 refine T.seq fun K1 hK1 => ?_
 refine T.region (l := [0, 1]) rfl ?_
 refine RN.E rfl rfl rfl rfl (e_box (vs := [iC a]) rfl rfl rfl) ?_
 rintro _ _ ⟨b1, rfl, rfl⟩
 refine RN.a rfl ?_
 refine RN.nil ?_
 refine hK1 _ _ ?_
 refine T.seq fun K2 hK2 => ?_
 refine T.region (l := [0, 1, 2, 3, 4]) rfl ?_
 refine RN.p rfl (p_fieldAddr rfl fa_46_0 rfl) ?_
 refine RN.u rfl (q_load rfl sc_3 rfl (i := 0) rfl rfl) ?_
 refine RN.E rfl rfl rfl rfl (e_buildSlice1 rfl Tryd.underlying63 ti_3 rfl (by conv => lhs; whnf) rfl) ?_
 rintro _ _ ⟨b5, rfl, rfl⟩
 refine RN.C [0, 1] rfl rfl rfl rfl (c_call rfl rfl) (Told20_spec A hB wFail b5 1 [a] (one_bd ha) (by decide) (by simp)) rfl ?_
 rintro _ _ ⟨rfl, rfl⟩
 rw [told_one]
 refine RN.a rfl ?_
 refine RN.nil ?_
 refine hK2 _ _ ?_
 refine T.ret ?_
 refine bodyQ_ret [A] (RetRun.tmp RetRun.nil) ⟨rfl, rfl⟩ (Ent.pull_drop (is := [0, 1]) rfl)

theorem TWrite_spec (A : Assn) (hA : Glob 1 2 A) (hB : Glob2 Tryd.prog 0 A) (a b : Int) (s : List UInt8) (ha : -999999999 ≤ a ∧ a ≤ 999999999) (hb : -999999999 ≤ b ∧ b ≤ 999999999) (hs : s.length ≤ 100000000) : Ctr Tryd.prog 103 [.agg #[iC a, iC b, strV s]] [A] (fun w Ps => w = strV (wWrite ++ nT a ++ nT b ++ (32 :: Qt s)) ∧ Ps = [A]) := by
 refine Ctr.of_body Tryd.func103 rfl (by kernel_rfl) Tryd.ntmps103 rfl rfl (fun Fr => ?_)
 have hq := Qt_len s
 have h1 := nT_len ha
 have h2 := nT_len hb
 refine T.seq fun K1 hK1 => ?_
 refine T.region (l := [0, 1]) rfl ?_
 refine RN.E rfl rfl rfl rfl (e_box (vs := [iC a, iC b, strV s]) rfl rfl rfl) ?_
 rintro _ _ ⟨b1, rfl, rfl⟩
 refine RN.a rfl ?_
 refine RN.nil ?_
 refine hK1 _ _ ?_
 refine T.seq fun K2 hK2 => ?_
 refine T.regionD (z := 12) (Bs := [row b1 37 [iC a, iC b, strV s]]) (l := [(0, .pure), (1, .load), (2, .pure), (3, .load), (7, .pure), (8, .load), (4, .eff), (5, .eff), (6, .pure), (9, .eff), (10, .pure), (11, .pure)]) mixed (by kernel_rfl) (by first | exact Ent.refl _ | exact Ent.pull_drop (is := [0]) rfl | exact Ent.pull_drop (is := [1]) rfl | exact Ent.pull_drop (is := [2]) rfl | exact Ent.pull_drop (is := [3]) rfl | exact Ent.pull_drop (is := [4]) rfl | exact Ent.pull_drop (is := [5]) rfl | exact Ent.pull_drop (is := [6]) rfl | exact Ent.pull_drop (is := [7]) rfl) ?_
 refine RD.n rfl (p_fieldAddr rfl fa_37_0 rfl) ?_
 refine RD.qq rfl rfl rfl rfl (by first | exact (q_load rfl sc_3 rfl (i := 0) rfl rfl) | exact (q_load rfl sc_3 rfl (i := 1) rfl rfl) | exact (q_load rfl sc_3 rfl (i := 2) rfl rfl) | exact (q_load rfl sc_3 rfl (i := 3) rfl rfl) | exact (q_load rfl sc_3 rfl (i := 4) rfl rfl)) (by first | exact Ent.refl _ | exact Ent.pull_drop (is := [0]) rfl | exact Ent.pull_drop (is := [1]) rfl | exact Ent.pull_drop (is := [2]) rfl | exact Ent.pull_drop (is := [3]) rfl | exact Ent.pull_drop (is := [4]) rfl | exact Ent.pull_drop (is := [5]) rfl | exact Ent.pull_drop (is := [6]) rfl | exact Ent.pull_drop (is := [7]) rfl) ?_
 refine RD.n rfl (p_fieldAddr rfl fa_37_1 rfl) ?_
 refine RD.qq rfl rfl rfl rfl (by first | exact (q_load rfl sc_3 rfl (i := 0) rfl rfl) | exact (q_load rfl sc_3 rfl (i := 1) rfl rfl) | exact (q_load rfl sc_3 rfl (i := 2) rfl rfl) | exact (q_load rfl sc_3 rfl (i := 3) rfl rfl) | exact (q_load rfl sc_3 rfl (i := 4) rfl rfl)) (by first | exact Ent.refl _ | exact Ent.pull_drop (is := [0]) rfl | exact Ent.pull_drop (is := [1]) rfl | exact Ent.pull_drop (is := [2]) rfl | exact Ent.pull_drop (is := [3]) rfl | exact Ent.pull_drop (is := [4]) rfl | exact Ent.pull_drop (is := [5]) rfl | exact Ent.pull_drop (is := [6]) rfl | exact Ent.pull_drop (is := [7]) rfl) ?_
 refine RD.n rfl (p_fieldAddr rfl fa_37_2 rfl) ?_
 refine RD.qq rfl rfl rfl rfl (by first | exact (q_load rfl sc_9 rfl (i := 0) rfl rfl) | exact (q_load rfl sc_9 rfl (i := 1) rfl rfl) | exact (q_load rfl sc_9 rfl (i := 2) rfl rfl) | exact (q_load rfl sc_9 rfl (i := 3) rfl rfl) | exact (q_load rfl sc_9 rfl (i := 4) rfl rfl)) (by first | exact Ent.refl _ | exact Ent.pull_drop (is := [0]) rfl | exact Ent.pull_drop (is := [1]) rfl | exact Ent.pull_drop (is := [2]) rfl | exact Ent.pull_drop (is := [3]) rfl | exact Ent.pull_drop (is := [4]) rfl | exact Ent.pull_drop (is := [5]) rfl | exact Ent.pull_drop (is := [6]) rfl | exact Ent.pull_drop (is := [7]) rfl) ?_
 refine RD.E rfl rfl rfl rfl (e_buildSlice rfl Tryd.underlying63 ti_3 rfl (by decide) rfl (by simp)) (by rintro _ _ ⟨_, rfl, rfl⟩; exact .inl (by first | exact Ent.refl _ | exact Ent.pull_drop (is := [0]) rfl | exact Ent.pull_drop (is := [1]) rfl | exact Ent.pull_drop (is := [2]) rfl | exact Ent.pull_drop (is := [3]) rfl | exact Ent.pull_drop (is := [4]) rfl | exact Ent.pull_drop (is := [5]) rfl | exact Ent.pull_drop (is := [6]) rfl | exact Ent.pull_drop (is := [7]) rfl)) ?_
 rintro _ _ ⟨b7, rfl, rfl⟩
 refine RD.C [0, 1] rfl rfl rfl rfl (c_call rfl rfl) (Told20_spec A hB wWrite b7 2 [a, b] (two_bd ha hb) (by decide) (by simp)) rfl (by rintro _ _ ⟨rfl, rfl⟩; exact .inl (by first | exact Ent.refl _ | exact Ent.pull_drop (is := [0]) rfl | exact Ent.pull_drop (is := [1]) rfl | exact Ent.pull_drop (is := [2]) rfl | exact Ent.pull_drop (is := [3]) rfl | exact Ent.pull_drop (is := [4]) rfl | exact Ent.pull_drop (is := [5]) rfl | exact Ent.pull_drop (is := [6]) rfl | exact Ent.pull_drop (is := [7]) rfl)) ?_
 rintro _ _ ⟨rfl, rfl⟩
 rw [told_two]
 refine RD.n rfl (p_sadd rfl rfl rfl (by simp only [List.length_append, List.length_cons, List.length_nil, wWrite]; omega)) ?_
 refine RD.C [0] rfl rfl rfl rfl (c_call rfl rfl) (Quote_spec A hA s hs) rfl (by rintro _ _ ⟨rfl, rfl⟩; exact .inl (by first | exact Ent.refl _ | exact Ent.pull_drop (is := [0]) rfl | exact Ent.pull_drop (is := [1]) rfl | exact Ent.pull_drop (is := [2]) rfl | exact Ent.pull_drop (is := [3]) rfl | exact Ent.pull_drop (is := [4]) rfl | exact Ent.pull_drop (is := [5]) rfl | exact Ent.pull_drop (is := [6]) rfl | exact Ent.pull_drop (is := [7]) rfl)) ?_
 rintro _ _ ⟨rfl, rfl⟩
 refine RD.n rfl (p_sadd rfl rfl rfl (by simp only [List.length_append, List.length_cons, List.length_nil, wWrite]; omega)) ?_
 refine RD.n rfl (p_assign rfl (by conv => lhs; whnf)) ?_
 refine RD.nil ?_
 refine hK2 _ _ ?_
 refine T.ret ?_
 refine bodyQ_ret [A] (RetRun.tmp RetRun.nil) ⟨congrArg strV (by simp), rfl⟩ (Ent.pull_drop (is := [0, 1]) rfl)

theorem TMount_spec (A : Assn) (hB : Glob2 Tryd.prog 0 A) (a : Int) (ha : -999999999 ≤ a ∧ a ≤ 999999999) : Ctr Tryd.prog 109 [.agg #[iC a]] [A] (fun w Ps => w = strV (if a = -1 then wMount else wMount ++ nT a) ∧ Ps = [A]) := by
 refine Ctr.of_body Tryd.func109 rfl (by kernel_rfl) Tryd.ntmps109 rfl rfl (fun Fr => ?_)
 refine T.seq fun K1 hK1 => ?_
 refine T.region (l := [0, 1]) rfl ?_
 refine RN.E rfl rfl rfl rfl (e_box (vs := [iC a]) rfl rfl rfl) ?_
 rintro _ _ ⟨b1, rfl, rfl⟩
 refine RN.a rfl ?_
 refine RN.nil ?_
 refine hK1 _ _ ?_
 refine T.seq fun K2 hK2 => ?_
 refine T.seq fun K3 hK3 => ?_
 refine T.region (l := [0, 1, 2]) rfl ?_
 refine RN.p rfl (p_fieldAddr rfl fa_47_0 rfl) ?_
 refine RN.u rfl (q_load rfl sc_3 rfl (i := 0) rfl rfl) ?_
 refine RN.p rfl (p_eql rfl rfl rfl) ?_
 refine RN.nil ?_
 refine hK3 _ _ ?_
 first | refine T.cond_dec rfl (fun h5 => ?_) (fun h5 => ?_) | refine T.cond rfl (fun h5 => ?_) (fun h5 => ?_)
 ·
  refine T.seq fun K4 hK4 => ?_
  refine T.region (l := [0]) rfl ?_
  refine RN.a rfl ?_
  refine RN.nil ?_
  refine hK4 _ _ ?_
  refine T.ret ?_
  refine Post.seq_r ?_
  refine bodyQ_ret [A] (RetRun.tmp RetRun.nil) ⟨congrArg strV (by rw [if_pos h5]; rfl), rfl⟩ (Ent.pull_drop (is := [1, 1]) rfl)
 ·
  refine T.skip ?_
  refine hK2 _ _ ?_
  refine T.seq fun K5 hK5 => ?_
  refine T.region (l := [0, 1, 2, 3, 4]) rfl ?_
  refine RN.p rfl (p_fieldAddr rfl fa_47_0 rfl) ?_
  refine RN.u rfl (q_load rfl sc_3 rfl (i := 0) rfl rfl) ?_
  refine RN.E rfl rfl rfl rfl (e_buildSlice1 rfl Tryd.underlying63 ti_3 rfl (by conv => lhs; whnf) rfl) ?_
  rintro _ _ ⟨b8, rfl, rfl⟩
  refine RN.C [0, 1] rfl rfl rfl rfl (c_call rfl rfl) (Told20_spec A hB wMount b8 1 [a] (one_bd ha) (by decide) (by simp)) rfl ?_
  rintro _ _ ⟨rfl, rfl⟩
  rw [told_one]
  refine RN.a rfl ?_
  refine RN.nil ?_
  refine hK5 _ _ ?_
  refine T.ret ?_
  refine bodyQ_ret [A] (RetRun.tmp RetRun.nil) ⟨congrArg strV (by rw [if_neg h5]), rfl⟩ (Ent.pull_drop (is := [0, 1]) rfl)

theorem TShow_spec (A : Assn) : Ctr Tryd.prog 110 [.agg #[]] [A] (fun w Ps => w = strV wShow ∧ Ps = [A]) := by
 refine Ctr.of_body Tryd.func110 rfl (by kernel_rfl) Tryd.ntmps110 rfl rfl (fun Fr => ?_)
 refine T.seq fun K1 hK1 => ?_
 refine T.region (l := [0, 1]) rfl ?_
 refine RN.E rfl rfl rfl rfl (e_box (vs := []) rfl rfl rfl) ?_
 rintro _ _ ⟨b1, rfl, rfl⟩
 refine RN.a rfl ?_
 refine RN.nil ?_
 refine hK1 _ _ ?_
 refine T.seq fun K2 hK2 => ?_
 refine T.region (l := [0]) rfl ?_
 refine RN.a rfl ?_
 refine RN.nil ?_
 refine hK2 _ _ ?_
 refine T.ret ?_
 refine bodyQ_ret [A] (RetRun.tmp RetRun.nil) ⟨rfl, rfl⟩ (Ent.pull_drop (is := [1, 1]) rfl)

theorem TStat_spec (A : Assn) : Ctr Tryd.prog 111 [.agg #[]] [A] (fun w Ps => w = strV wStat ∧ Ps = [A]) := by
 refine Ctr.of_body Tryd.func111 rfl (by kernel_rfl) Tryd.ntmps111 rfl rfl (fun Fr => ?_)
 refine T.seq fun K1 hK1 => ?_
 refine T.region (l := [0, 1]) rfl ?_
 refine RN.E rfl rfl rfl rfl (e_box (vs := []) rfl rfl rfl) ?_
 rintro _ _ ⟨b1, rfl, rfl⟩
 refine RN.a rfl ?_
 refine RN.nil ?_
 refine hK1 _ _ ?_
 refine T.seq fun K2 hK2 => ?_
 refine T.region (l := [0]) rfl ?_
 refine RN.a rfl ?_
 refine RN.nil ?_
 refine hK2 _ _ ?_
 refine T.ret ?_
 refine bodyQ_ret [A] (RetRun.tmp RetRun.nil) ⟨rfl, rfl⟩ (Ent.pull_drop (is := [1, 1]) rfl)

end Go.Proofs.YtokbjejbgbdkoaaDoor
namespace Go.Proofs.YtokbjejbgbdkoaaDoor
open Go Go.Sl Go.Proofs
set_option maxRecDepth 20000
open Go.Mo Go.Proofs Go.Shelf Go.RowKit Go.Evl
/-- Which function tells a command of this kind. -/
def fT (k : Nat) : Nat := if k = 114 then 105 else if k = 119 then 103 else if k = 116 then 106 else if k = 99 then 107 else if k = 102 then 108 else if k = 109 then 109 else if k = 115 then 110 else 111
/-- What a command's value holds. -/
def payV (c : Cm) : Value := .agg (if c.kind = 114 then #[iC c.a, iC c.b] else if c.kind = 119 then #[iC c.a, iC c.b, strV c.data] else if c.kind = 116 then #[iC c.a, iC c.b] else if c.kind = 99 then #[iC c.a] else if c.kind = 102 then #[iC c.a] else if c.kind = 109 then #[iC c.a] else #[])
theorem c_text {e : Env} {o : Oper} {x : Operand} {c : Cm} (hc : CmOk c) (hop : o.op = .call { callee := .invoke x "Text", args := #[], argTypes := #[] }) (hr : ev e x = cmV c) : CRun Tryd.prog e o (fT c.kind) [payV c] := by
 obtain ⟨k, a, b, s⟩ := c
 have h := hc.kind
 rcases h with rfl | ⟨rfl, rfl | rfl | ⟨rfl, rfl | rfl | rfl | ⟨rfl, rfl | rfl⟩⟩⟩
 · exact c_invoke (t := 37) hop hr (by kernel_rfl)
 · exact c_invoke (t := 42) hop hr (by kernel_rfl)
 · exact c_invoke (t := 43) hop hr (by kernel_rfl)
 · exact c_invoke (t := 45) hop hr (by kernel_rfl)
 · exact c_invoke (t := 46) hop hr (by kernel_rfl)
 · exact c_invoke (t := 47) hop hr (by kernel_rfl)
 · exact c_invoke (t := 49) hop hr (by kernel_rfl)
 · exact c_invoke (t := 50) hop hr (by kernel_rfl)
theorem Text_spec (A : Assn) (hA : Glob 1 2 A) (hB : Glob2 Tryd.prog 0 A) (c : Cm) (hc : CmOk c) : Ctr Tryd.prog (fT c.kind) [payV c] [A] (fun w Ps => w = strV (textF c) ∧ Ps = [A]) := by
 obtain ⟨k, a, b, s⟩ := c
 have h := hc.kind
 have ha := hc.a
 have hb := hc.b
 have hd := hc.data
 rcases h with rfl | ⟨rfl, rfl | rfl | ⟨rfl, rfl | rfl | rfl | ⟨rfl, rfl | rfl⟩⟩⟩
 · exact TWrite_spec A hA hB a b s ha hb hd
 · exact TRead_spec A hB a b ha hb
 · exact TTrim_spec A hB a b ha hb
 · exact TCut_spec A hB a ha
 · exact TFail_spec A hB a ha
 · exact TMount_spec A hB a ha
 · exact TShow_spec A
 · exact TStat_spec A
theorem cm_row {cs : List Cm} {rest : List Value} {i : Nat} (hi : i < cs.length) : (cs.map cmV ++ rest)[0 + i]? = some (cmV cs[i]) := by
 rw [Nat.zero_add, List.getElem?_append_left (by simpa using hi), List.getElem?_map, List.getElem?_eq_getElem hi]
 rfl
end Go.Proofs.YtokbjejbgbdkoaaDoor
