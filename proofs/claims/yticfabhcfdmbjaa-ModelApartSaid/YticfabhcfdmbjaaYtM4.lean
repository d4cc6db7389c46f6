/-
  Walks of package model.
-/
import Derived.Test.YticfabhcfdmbjaaYtM3
namespace Go.Proofs.Yticfabhcfdmbjaa
open Go Go.Sl Go.Proofs
set_option maxRecDepth 20000
open Go.Mo
def NewQ (n : Int) : Value → List Assn → Prop := fun v Ps => (if 1 ≤ n ∧ n ≤ 512 then ∃ a p cap ds rest, v = .tuple #[ptr a 0, .int .i64 0] ∧ (ds.length : Int) = n ∧ (∀ x ∈ ds, x.ok) ∧ bytesOf ds = List.replicate n.toNat (z32) ∧ ds.length ≤ cap ∧ Ps = arrR 75 49 5 a p cap ds rest else v = .tuple #[.pointer none, .int .i64 1] ∧ Ps = [])
theorem NewQ_yes {n : Int} {v : Value} {Ps : List Assn} (h : NewQ n v Ps) (hn : 1 ≤ n ∧ n ≤ 512) : ∃ a p cap ds rest, v = .tuple #[ptr a 0, .int .i64 0] ∧ (ds.length : Int) = n ∧ (∀ x ∈ ds, x.ok) ∧ bytesOf ds = List.replicate n.toNat (z32) ∧ ds.length ≤ cap ∧ Ps = arrR 75 49 5 a p cap ds rest := by
  unfold NewQ at h; rwa [if_pos hn] at h
theorem NewQ_no {n : Int} {v : Value} {Ps : List Assn} (h : NewQ n v Ps) (hn : ¬ (1 ≤ n ∧ n ≤ 512)) : v = .tuple #[.pointer none, .int .i64 1] ∧ Ps = [] := by
  unfold NewQ at h; rwa [if_neg hn] at h

theorem New_spec (n : Int) : Ctr Try.prog 12 [.int .i64 n] [] (NewQ n) := by
  refine Ctr.of_body Try.func12 rfl (by kernel_rfl) Try.ntmps12 rfl rfl (fun Fr => ?_)
  refine T.seq fun K1 hK1 => ?_
  refine T.region (l := [0, 1]) rfl ?_
  refine RN.qq rfl rfl rfl rfl (PRun.q (p_assign rfl (by conv => lhs; whnf))) ?_
  refine RN.qq rfl rfl rfl rfl (PRun.q (p_assign rfl (by conv => lhs; whnf))) ?_
  refine RN.nil ?_
  refine hK1 _ _ ?_
  refine T.seq fun K2 hK2 => ?_
  refine T.seq fun K3 hK3 => ?_
  refine T.region (l := [0, 1, 2, 3, 4, 5]) rfl ?_
  refine RN.qq rfl rfl rfl rfl (PRun.q (p_move rfl (by conv => lhs; whnf))) ?_
  refine RN.qq rfl rfl rfl rfl (PRun.q (p_lss rfl rfl rfl)) ?_
  refine RN.qq rfl rfl rfl rfl (PRun.q (p_move rfl (by conv => lhs; whnf))) ?_
  first | refine RN.split_dec 7 rfl (fun h7 => ?_) (fun h7 => ?_) | refine RN.split 7 rfl (fun h7 => ?_) (fun h7 => ?_)
  ·
    refine RN.O rfl rfl rfl rfl ?_
    refine RN.O rfl rfl rfl rfl ?_
    refine RN.qq rfl rfl rfl rfl (PRun.q (p_pick_t rfl rfl (by conv => lhs; whnf))) ?_
    refine RN.nil ?_
    refine hK3 _ _ ?_
    refine T.cond_t rfl ?_
    refine T.seq fun K4 hK4 => ?_
    refine T.region (l := [0, 1]) rfl ?_
    refine RN.qq rfl rfl rfl rfl (PRun.q (p_assign rfl (by conv => lhs; whnf))) ?_
    refine RN.qq rfl rfl rfl rfl (PRun.q (p_assign rfl (by conv => lhs; whnf))) ?_
    refine RN.nil ?_
    refine hK4 _ _ ?_
    refine T.ret ?_
    refine Post.seq_r ?_
    refine bodyQ_ret [] (RetRun.tmp (RetRun.tmp RetRun.nil)) (by unfold NewQ; rw [if_neg (by omega)]; exact ⟨rfl, rfl⟩) (Ent.refl _)
  ·
    refine RN.qq rfl rfl rfl rfl (PRun.q (p_move rfl (by conv => lhs; whnf))) ?_
    refine RN.qq rfl rfl rfl rfl (PRun.q (p_gtr rfl rfl rfl)) ?_
    refine RN.qq rfl rfl rfl rfl (PRun.q (p_pick_f rfl rfl (by conv => lhs; whnf))) ?_
    refine RN.nil ?_
    refine hK3 _ _ ?_
    first | refine T.cond_dec rfl (fun h10 => ?_) (fun h10 => ?_) | refine T.cond rfl (fun h10 => ?_) (fun h10 => ?_)
    ·
      refine T.seq fun K5 hK5 => ?_
      refine T.region (l := [0, 1]) rfl ?_
      refine RN.qq rfl rfl rfl rfl (PRun.q (p_assign rfl (by conv => lhs; whnf))) ?_
      refine RN.qq rfl rfl rfl rfl (PRun.q (p_assign rfl (by conv => lhs; whnf))) ?_
      refine RN.nil ?_
      refine hK5 _ _ ?_
      refine T.ret ?_
      refine Post.seq_r ?_
      refine bodyQ_ret [] (RetRun.tmp (RetRun.tmp RetRun.nil)) (by unfold NewQ; rw [if_neg (by omega)]; exact ⟨rfl, rfl⟩) (Ent.refl _)
    ·
      obtain ⟨nn, rfl⟩ := Int.eq_ofNat_of_zero_le (show 0 ≤ n by omega)
      refine T.skip ?_
      refine hK2 _ _ ?_
      refine T.seq fun K6 hK6 => ?_
      refine T.region (l := [0, 1, 2]) rfl ?_
      refine RN.qq rfl rfl rfl rfl (PRun.q (p_build rfl pl_75 ti_75 rfl)) ?_
      refine RN.E rfl rfl rfl rfl (e_box rfl rfl rfl) ?_
      rintro _ _ ⟨b12, rfl, rfl⟩
      refine RN.ent (Ent.cons (Ent.refl _) (Ent.vec_nil' (el := 49) (sz := 1))) ?_
      refine RN.qq rfl rfl rfl rfl (PRun.q (p_assign rfl (by conv => lhs; whnf))) ?_
      refine RN.nil ?_
      refine hK6 _ _ ?_
      refine T.seq fun K7 hK7 => ?_
      refine T.seq fun K8 hK8 => ?_
      refine T.region (l := [0, 1]) rfl ?_
      refine RN.qq rfl rfl rfl rfl (PRun.q (p_move rfl (by conv => lhs; whnf))) ?_
      refine RN.qq rfl rfl rfl rfl (PRun.q (p_move rfl (by conv => lhs; whnf))) ?_
      refine RN.nil ?_
      refine hK8 _ _ ?_
      refine T.block ?_
      refine T.loop (G := Nat × Value × List Sec) (fun ⟨k, v, ds⟩ => k ≤ nn ∧ ds.length = k ∧ (∀ x ∈ ds, x.ok) ∧ bytesOf ds = List.replicate k (z32)) (fun ⟨k, v, ds⟩ => [(4, ptr b12 0), (13, .int .i64 nn), (14, .int .i64 k)]) (fun ⟨k, v, ds⟩ => [row b12 75 [v], vec 49 1 v k (ds.map Sec.hdr), sep (ds.map (Sec.own 5)), Fr]) (fun ⟨k, v, ds⟩ => nn - k) (0, .slice none 0 0, []) ⟨by omega, rfl, by simp, rfl⟩ (LiveIs.cons rfl (LiveIs.cons rfl (LiveIs.cons rfl LiveIs.nil))) ?_ ?_
      · exact Ent.cons (Ent.refl _) (Ent.cons (Ent.refl _) (Ent.unflat [] [Fr]))
      rintro ⟨k, v, ds⟩ e9 ⟨hk, hd, hok, hb⟩
      dsimp only
      refine T.seq fun K10 hK10 => ?_
      refine T.region (l := [0]) rfl ?_
      refine RN.qq rfl rfl rfl rfl (PRun.q (p_lss rfl rfl rfl)) ?_
      refine RN.nil ?_
      refine hK10 _ _ ?_
      refine T.seq fun K11 hK11 => ?_
      first | refine T.cond_dec rfl (fun h15 => ?_) (fun h15 => ?_) | refine T.cond rfl (fun h15 => ?_) (fun h15 => ?_)
      ·
        refine T.skip ?_
        refine hK11 _ _ ?_
        refine T.seq fun K12 hK12 => ?_
        refine T.block ?_
        refine T.regionD (z := 10) (Bs := [row b12 75 [v]]) (l := [(0, .pure), (1, .pure), (2, .pure), (3, .pure), (4, .load), (5, .eff), (6, .eff), (7, .eff), (8, .pure), (9, .pure), (10, .eff)]) mixed (by kernel_rfl) (by first | exact Ent.refl _ | exact Ent.pull_drop (is := [0]) rfl | exact Ent.pull_drop (is := [1]) rfl | exact Ent.pull_drop (is := [2]) rfl | exact Ent.pull_drop (is := [3]) rfl | exact Ent.pull_drop (is := [4]) rfl | exact Ent.pull_drop (is := [5]) rfl | exact Ent.pull_drop (is := [6]) rfl | exact Ent.pull_drop (is := [7]) rfl) ?_
        refine RD.pp rfl rfl rfl rfl (p_move rfl (by conv => lhs; whnf)) ?_
        refine RD.pp rfl rfl rfl rfl (p_move rfl (by conv => lhs; whnf)) ?_
        refine RD.pp rfl rfl rfl rfl (p_nilCheck rfl rfl) ?_
        refine RD.pp rfl rfl rfl rfl (p_fieldAddr rfl fa_75_0 rfl) ?_
        refine RD.qq rfl rfl rfl rfl (q_load rfl sc_73 rfl (i := 0) rfl rfl) (by first | exact Ent.refl _ | exact Ent.pull_drop (is := [0]) rfl | exact Ent.pull_drop (is := [1]) rfl | exact Ent.pull_drop (is := [2]) rfl | exact Ent.pull_drop (is := [3]) rfl | exact Ent.pull_drop (is := [4]) rfl | exact Ent.pull_drop (is := [5]) rfl | exact Ent.pull_drop (is := [6]) rfl | exact Ent.pull_drop (is := [7]) rfl) ?_
        refine RD.E rfl rfl rfl rfl (by first | exact (e_makeSliceN (n := 32) (c := 32) rfl Try.underlying49 ti_5 rfl rfl rfl (by omega)) | exact (e_makeSlice rfl Try.underlying49 ti_5 rfl rfl rfl (by omega))) (by rintro _ _ ⟨_, rfl, rfl⟩; exact .inl (by first | exact Ent.refl _ | exact Ent.pull_drop (is := [0]) rfl | exact Ent.pull_drop (is := [1]) rfl | exact Ent.pull_drop (is := [2]) rfl | exact Ent.pull_drop (is := [3]) rfl | exact Ent.pull_drop (is := [4]) rfl | exact Ent.pull_drop (is := [5]) rfl | exact Ent.pull_drop (is := [6]) rfl | exact Ent.pull_drop (is := [7]) rfl)) ?_
        rintro _ _ ⟨b21, rfl, rfl⟩
        refine RD.E rfl rfl rfl rfl (e_buildSlice1 rfl Try.underlying73 ti_49 rfl (by conv => lhs; whnf) rfl) (by rintro _ _ ⟨_, rfl, rfl⟩; exact .inl (by first | exact Ent.refl _ | exact Ent.pull_drop (is := [0]) rfl | exact Ent.pull_drop (is := [1]) rfl | exact Ent.pull_drop (is := [2]) rfl | exact Ent.pull_drop (is := [3]) rfl | exact Ent.pull_drop (is := [4]) rfl | exact Ent.pull_drop (is := [5]) rfl | exact Ent.pull_drop (is := [6]) rfl | exact Ent.pull_drop (is := [7]) rfl)) ?_
        rintro _ _ ⟨b22, rfl, rfl⟩
        refine RD.E rfl rfl rfl rfl (e_append rfl Try.underlying73 ni_73 ti_49 rfl rfl (i := 3) rfl (src_full (i := 0) rfl rfl) (by first | exact one_one rfl | simp [Value.oneCell']) (by omega)) (by rintro _ _ ⟨_, rfl⟩; exact .inl (by first | exact Ent.refl _ | exact Ent.pull_drop (is := [0]) rfl | exact Ent.pull_drop (is := [1]) rfl | exact Ent.pull_drop (is := [2]) rfl | exact Ent.pull_drop (is := [3]) rfl | exact Ent.pull_drop (is := [4]) rfl | exact Ent.pull_drop (is := [5]) rfl | exact Ent.pull_drop (is := [6]) rfl | exact Ent.pull_drop (is := [7]) rfl)) ?_
        rintro v23 _ ⟨hv23, rfl⟩
        simp only [setN]
        refine RD.pp rfl rfl rfl rfl (p_nilCheck rfl rfl) ?_
        refine RD.pp rfl rfl rfl rfl (p_fieldAddr rfl fa_75_0 rfl) ?_
        refine RD.EN rfl rfl rfl (by first | exact (e_store rfl ts_73 rfl (by conv => lhs; whnf) (by first | rfl | assumption) (i := 0) rfl (by simp)) | exact (e_store rfl ts_73 rfl (by conv => lhs; whnf) (by first | rfl | assumption) (i := 1) rfl (by simp)) | exact (e_store rfl ts_73 rfl (by conv => lhs; whnf) (by first | rfl | assumption) (i := 2) rfl (by simp)) | exact (e_store rfl ts_73 rfl (by conv => lhs; whnf) (by first | rfl | assumption) (i := 3) rfl (by simp)) | exact (e_store rfl ts_73 rfl (by conv => lhs; whnf) (by first | rfl | assumption) (i := 4) rfl (by simp))) (fun _ _ _ => .inr rfl) ?_
        rintro _ _ ⟨rfl, rfl⟩
        refine RD.nil ?_
        refine hK12 _ _ ?_
        refine T.region (l := [0, 1]) rfl ?_
        refine RN.qq rfl rfl rfl rfl (PRun.q (by first | exact (p_addN (b := 1) rfl rfl rfl (by omega)) | exact (p_add rfl rfl rfl (by omega)))) ?_
        refine RN.qq rfl rfl rfl rfl (PRun.q (p_move rfl (by conv => lhs; whnf))) ?_
        refine RN.nil ?_
        refine ⟨(k + 1, v23, ds ++ [⟨b21, 32, z32, []⟩]), ?_, (by simp; omega), (LiveIs.cons rfl (LiveIs.cons rfl (LiveIs.cons rfl LiveIs.nil))), ?_⟩
        · refine ⟨by omega, by simp [hd], ?_, ?_⟩
          · intro x hx
            rcases List.mem_append.1 hx with h | h
            · exact hok x h
            · rw [List.mem_singleton.1 h]; rfl
          · show bytesOf (ds ++ [(⟨b21, 32, z32, []⟩ : Sec)]) = List.replicate (k + 1) z32
            rw [bytesOf, List.map_append, List.replicate_succ', ← hb]
            rfl
        · refine (Ent.pull_drop (is := [1, 3, 1, 1, 1]) rfl).trans ?_
          refine Ent.trans (own_push (TB := 5) (ds := ds) (d := (⟨b21, 32, z32, []⟩ : Sec))) ?_
          refine (Ent.pull_drop (is := [1, 1, 0, 0]) rfl).trans (Ent.of_eq ?_)
          simp only [List.map_append]
          rfl
      ·
        have hkn : k = nn := by omega
        subst hkn
        refine T.exit ?_
        refine Post.seq_x ?_
        refine Post.seq_x ?_
        refine Post.block_hit ?_
        refine hK7 _ _ ?_
        refine T.seq fun K13 hK13 => ?_
        subst hd
        refine T.openVec 1 rfl (by omega) ?_
        rintro p cap rest rfl hc1 hc2 hc3
        refine T.region (l := [0, 1, 2]) rfl ?_
        refine RN.qq rfl rfl rfl rfl (PRun.q (p_move rfl (by conv => lhs; whnf))) ?_
        refine RN.qq rfl rfl rfl rfl (PRun.q (p_assign rfl (by conv => lhs; whnf))) ?_
        refine RN.qq rfl rfl rfl rfl (PRun.q (p_assign rfl (by conv => lhs; whnf))) ?_
        refine RN.nil ?_
        refine hK13 _ _ ?_
        refine T.ret ?_
        refine bodyQ_ret (arrR 75 49 5 b12 p cap ds rest) (RetRun.tmp (RetRun.tmp RetRun.nil)) (by unfold NewQ; rw [if_pos (by omega)]; exact ⟨b12, p, cap, ds, rest, rfl, rfl, hok, by simpa using hb, hc1, rfl⟩) (Ent.refl _)

end Go.Proofs.Yticfabhcfdmbjaa
