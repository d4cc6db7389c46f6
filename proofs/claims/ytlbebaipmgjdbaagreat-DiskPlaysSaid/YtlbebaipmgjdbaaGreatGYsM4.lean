/-
 Walks of package model.
-/
import Derived.Test.YtlbebaipmgjdbaaGreatGYsM1
import Derived.Test.YtlbebaipmgjdbaaGreatGModelP
set_option linter.unusedVariables false
set_option linter.unusedSimpArgs false
namespace Go.Proofs.YtlbebaipmgjdbaaGreat
open Go Go.Sl Go.Proofs
set_option maxRecDepth 20000
open Go.Mo
def NewQ (n : Int) : Value → List Assn → Prop := fun v Ps => (if 1 ≤ n ∧ n ≤ 512 then ∃ a p cap ds rest, v = .tuple #[ptr a 0, .int .i64 0] ∧ (ds.length : Int) = n ∧ (∀ x ∈ ds, x.ok) ∧ bytesOf ds = List.replicate n.toNat (z32) ∧ ds.length ≤ cap ∧ Ps = arrR 59 60 5 a p cap ds rest else v = .tuple #[.pointer none, .int .i64 1] ∧ Ps = [])
theorem NewQ_yes {n : Int} {v : Value} {Ps : List Assn} (h : NewQ n v Ps) (hn : 1 ≤ n ∧ n ≤ 512) : ∃ a p cap ds rest, v = .tuple #[ptr a 0, .int .i64 0] ∧ (ds.length : Int) = n ∧ (∀ x ∈ ds, x.ok) ∧ bytesOf ds = List.replicate n.toNat (z32) ∧ ds.length ≤ cap ∧ Ps = arrR 59 60 5 a p cap ds rest := by
 unfold NewQ at h; rwa [if_pos hn] at h
theorem NewQ_no {n : Int} {v : Value} {Ps : List Assn} (h : NewQ n v Ps) (hn : ¬ (1 ≤ n ∧ n ≤ 512)) : v = .tuple #[.pointer none, .int .i64 1] ∧ Ps = [] := by
 unfold NewQ at h; rwa [if_neg hn] at h

theorem New_spec (n : Int) : Ctr Tryz.prog 5 [.int .i64 n] [] (NewQ n) := by
 refine Ctr.of_body Tryz.func5 rfl (by kernel_rfl) Tryz.ntmps5 rfl rfl (fun Fr => ?_)
 refine T.seq fun K1 hK1 => ?_
 refine T.region (l := [0, 1]) rfl ?_
 refine RN.a rfl ?_
 refine RN.a rfl ?_
 refine RN.nil ?_
 refine hK1 _ _ ?_
 refine T.seq fun K2 hK2 => ?_
 refine T.seq fun K3 hK3 => ?_
 refine T.region (l := [0, 1, 2, 3, 4, 5]) rfl ?_
 refine RN.m rfl ?_
 refine RN.p rfl (p_lss rfl rfl rfl) ?_
 refine RN.m rfl ?_
 first | refine RN.split_dec 7 rfl (fun h7 => ?_) (fun h7 => ?_) | refine RN.split 7 rfl (fun h7 => ?_) (fun h7 => ?_)
 ·
  refine RN.no0 rfl ?_
  refine RN.no0 rfl ?_
  refine RN.pt rfl ?_
  refine RN.nil ?_
  refine hK3 _ _ ?_
  refine T.cond_t rfl ?_
  refine T.seq fun K4 hK4 => ?_
  refine T.region (l := [0, 1]) rfl ?_
  refine RN.a rfl ?_
  refine RN.a rfl ?_
  refine RN.nil ?_
  refine hK4 _ _ ?_
  refine T.ret ?_
  refine Post.seq_r ?_
  refine bodyQ_ret [] (RetRun.tmp (RetRun.tmp RetRun.nil)) (by unfold NewQ; rw [if_neg (by omega)]; exact ⟨rfl, rfl⟩) (Ent.refl _)
 ·
  refine RN.m rfl ?_
  refine RN.p rfl (p_gtr rfl rfl rfl) ?_
  refine RN.pf rfl ?_
  refine RN.nil ?_
  refine hK3 _ _ ?_
  first | refine T.cond_dec rfl (fun h10 => ?_) (fun h10 => ?_) | refine T.cond rfl (fun h10 => ?_) (fun h10 => ?_)
  ·
   refine T.seq fun K5 hK5 => ?_
   refine T.region (l := [0, 1]) rfl ?_
   refine RN.a rfl ?_
   refine RN.a rfl ?_
   refine RN.nil ?_
   refine hK5 _ _ ?_
   refine T.ret ?_
   refine Post.seq_r ?_
   refine bodyQ_ret [] (RetRun.tmp (RetRun.tmp RetRun.nil)) (by unfold NewQ; rw [if_neg (by omega)]; exact ⟨rfl, rfl⟩) (Ent.refl _)
  ·
   obtain ⟨nn, rfl⟩ := Int.eq_ofNat_of_zero_le (show 0 ≤ n by omega)
   refine T.skip ?_
   refine hK2 _ _ ?_
   refine T.seq fun K6 hK6 => ?_
   refine T.region (l := [0, 1, 2]) rfl ?_
   refine RN.p rfl (p_build rfl pl_59 ti_59 rfl) ?_
   refine RN.E rfl rfl rfl rfl (e_box rfl rfl rfl) ?_
   rintro _ _ ⟨b12, rfl, rfl⟩
   refine RN.ent (Ent.cons (Ent.refl _) (Ent.vec_nil' (el := 60) (sz := 1))) ?_
   refine RN.a rfl ?_
   refine RN.nil ?_
   refine hK6 _ _ ?_
   refine T.seq fun K7 hK7 => ?_
   refine T.seq fun K8 hK8 => ?_
   refine T.region (l := [0, 1]) rfl ?_
   refine RN.m rfl ?_
   refine RN.m rfl ?_
   refine RN.nil ?_
   refine hK8 _ _ ?_
   refine T.block ?_
   refine T.loop (G := Nat × Value × List Sec) (fun ⟨k, v, ds⟩ => k ≤ nn ∧ ds.length = k ∧ (∀ x ∈ ds, x.ok) ∧ bytesOf ds = List.replicate k (z32)) (fun ⟨k, v, ds⟩ => [(4, ptr b12 0), (13, .int .i64 nn), (14, .int .i64 k)]) (fun ⟨k, v, ds⟩ => [row b12 59 [v], vec 60 1 v k (ds.map Sec.hdr), sep (ds.map (Sec.own 5)), Fr]) (fun ⟨k, v, ds⟩ => nn - k) (0, .slice none 0 0, []) ⟨by omega, rfl, by simp, rfl⟩ (LiveIs.cons rfl (LiveIs.cons rfl (LiveIs.cons rfl LiveIs.nil))) ?_ ?_
   · exact Ent.cons (Ent.refl _) (Ent.cons (Ent.refl _) (Ent.unflat [] [Fr]))
   rintro ⟨k, v, ds⟩ e9 ⟨hk, hd, hok, hb⟩
   dsimp only
   refine T.seq fun K10 hK10 => ?_
   refine T.region (l := [0]) rfl ?_
   refine RN.p rfl (p_lss rfl rfl rfl) ?_
   refine RN.nil ?_
   refine hK10 _ _ ?_
   refine T.seq fun K11 hK11 => ?_
   first | refine T.cond_dec rfl (fun h15 => ?_) (fun h15 => ?_) | refine T.cond rfl (fun h15 => ?_) (fun h15 => ?_)
   ·
    refine T.skip ?_
    refine hK11 _ _ ?_
    refine T.seq fun K12 hK12 => ?_
    refine T.block ?_
    refine T.regionD (z := 10) (Bs := [row b12 59 [v]]) (l := [(0, .pure), (1, .pure), (2, .pure), (3, .pure), (4, .load), (5, .eff), (6, .eff), (7, .eff), (8, .pure), (9, .pure), (10, .eff)]) mixed (by kernel_rfl) (by first | exact Ent.refl _ | exact Ent.pull_drop (is := [0]) rfl | exact Ent.pull_drop (is := [1]) rfl | exact Ent.pull_drop (is := [2]) rfl | exact Ent.pull_drop (is := [3]) rfl | exact Ent.pull_drop (is := [4]) rfl | exact Ent.pull_drop (is := [5]) rfl | exact Ent.pull_drop (is := [6]) rfl | exact Ent.pull_drop (is := [7]) rfl) ?_
    refine RD.n rfl (p_move rfl (by conv => lhs; whnf)) ?_
    refine RD.n rfl (p_move rfl (by conv => lhs; whnf)) ?_
    refine RD.n rfl (p_nilCheck rfl rfl) ?_
    refine RD.n rfl (p_fieldAddr rfl fa_59_0 rfl) ?_
    refine RD.qq rfl rfl rfl rfl (q_load rfl sc_57 rfl (i := 0) rfl rfl) (by first | exact Ent.refl _ | exact Ent.pull_drop (is := [0]) rfl | exact Ent.pull_drop (is := [1]) rfl | exact Ent.pull_drop (is := [2]) rfl | exact Ent.pull_drop (is := [3]) rfl | exact Ent.pull_drop (is := [4]) rfl | exact Ent.pull_drop (is := [5]) rfl | exact Ent.pull_drop (is := [6]) rfl | exact Ent.pull_drop (is := [7]) rfl) ?_
    refine RD.E rfl rfl rfl rfl (by first | exact (e_makeSliceN (n := 32) (c := 32) rfl Tryz.underlying60 ti_5 rfl rfl rfl (by omega)) | exact (e_makeSlice rfl Tryz.underlying60 ti_5 rfl rfl rfl (by omega))) (by rintro _ _ ⟨_, rfl, rfl⟩; exact .inl (by first | exact Ent.refl _ | exact Ent.pull_drop (is := [0]) rfl | exact Ent.pull_drop (is := [1]) rfl | exact Ent.pull_drop (is := [2]) rfl | exact Ent.pull_drop (is := [3]) rfl | exact Ent.pull_drop (is := [4]) rfl | exact Ent.pull_drop (is := [5]) rfl | exact Ent.pull_drop (is := [6]) rfl | exact Ent.pull_drop (is := [7]) rfl)) ?_
    rintro _ _ ⟨b21, rfl, rfl⟩
    refine RD.E rfl rfl rfl rfl (e_buildSlice1 rfl Tryz.underlying57 ti_60 rfl (by conv => lhs; whnf) rfl) (by rintro _ _ ⟨_, rfl, rfl⟩; exact .inl (by first | exact Ent.refl _ | exact Ent.pull_drop (is := [0]) rfl | exact Ent.pull_drop (is := [1]) rfl | exact Ent.pull_drop (is := [2]) rfl | exact Ent.pull_drop (is := [3]) rfl | exact Ent.pull_drop (is := [4]) rfl | exact Ent.pull_drop (is := [5]) rfl | exact Ent.pull_drop (is := [6]) rfl | exact Ent.pull_drop (is := [7]) rfl)) ?_
    rintro _ _ ⟨b22, rfl, rfl⟩
    refine RD.E rfl rfl rfl rfl (e_append rfl Tryz.underlying57 ni_57 ti_60 rfl rfl (i := 3) rfl (src_full (i := 0) rfl rfl) (by first | exact one_one rfl | simp [Value.oneCell']) (by omega)) (by rintro _ _ ⟨_, rfl⟩; exact .inl (by first | exact Ent.refl _ | exact Ent.pull_drop (is := [0]) rfl | exact Ent.pull_drop (is := [1]) rfl | exact Ent.pull_drop (is := [2]) rfl | exact Ent.pull_drop (is := [3]) rfl | exact Ent.pull_drop (is := [4]) rfl | exact Ent.pull_drop (is := [5]) rfl | exact Ent.pull_drop (is := [6]) rfl | exact Ent.pull_drop (is := [7]) rfl)) ?_
    rintro v23 _ ⟨hv23, rfl⟩
    simp only [setN]
    refine RD.n rfl (p_nilCheck rfl rfl) ?_
    refine RD.n rfl (p_fieldAddr rfl fa_59_0 rfl) ?_
    refine RD.EN rfl rfl rfl (by first | exact (e_store rfl ts_57 rfl (by conv => lhs; whnf) (by first | rfl | assumption) (i := 0) rfl (by simp)) | exact (e_store rfl ts_57 rfl (by conv => lhs; whnf) (by first | rfl | assumption) (i := 1) rfl (by simp)) | exact (e_store rfl ts_57 rfl (by conv => lhs; whnf) (by first | rfl | assumption) (i := 2) rfl (by simp)) | exact (e_store rfl ts_57 rfl (by conv => lhs; whnf) (by first | rfl | assumption) (i := 3) rfl (by simp)) | exact (e_store rfl ts_57 rfl (by conv => lhs; whnf) (by first | rfl | assumption) (i := 4) rfl (by simp))) (fun _ _ _ => .inr rfl) ?_
    rintro _ _ ⟨rfl, rfl⟩
    refine RD.nil ?_
    refine hK12 _ _ ?_
    refine T.region (l := [0, 1]) rfl ?_
    refine RN.p rfl (by first | exact (p_addN (b := 1) rfl rfl rfl (by omega)) | exact (p_add rfl rfl rfl (by omega))) ?_
    refine RN.m rfl ?_
    refine RN.nil ?_
    refine ⟨(k + 1, v23, ds ++ [⟨b21, 32, z32, []⟩]), ?_, (by simp; omega), (LiveIs.cons rfl (LiveIs.cons rfl (LiveIs.cons rfl LiveIs.nil))), ?_⟩
    ·
     refine ⟨by omega, by simp [hd], ?_, ?_⟩
     ·
      intro x hx
      rcases List.mem_append.1 hx with h | h
      · exact hok x h
      · rw [List.mem_singleton.1 h]; rfl
     ·
      show bytesOf (ds ++ [(⟨b21, 32, z32, []⟩ : Sec)]) = List.replicate (k + 1) z32
      rw [bytesOf, List.map_append, List.replicate_succ', ← hb]
      rfl
    ·
     refine (Ent.pull_drop (is := [1, 3, 1, 1, 1]) rfl).trans ?_
     refine Ent.trans (own_push (TB := 5) (ds := ds) (d := (⟨b21, 32, z32, []⟩ : Sec))) ?_
     refine (Ent.pull_drop (is := [1, 1, 0, 0]) rfl).trans (Ent.of_eq ?_)
     simp only [List.map_append]
     rfl
   ·
    have hkn : k = nn := by omega
    subst hkn
    refine T.exit ?_
    refine Post.seq_x ?_
    refine Post.seq_x ?_
    refine Post.block_hit ?_
    refine hK7 _ _ ?_
    refine T.seq fun K13 hK13 => ?_
    subst hd
    refine T.openVec 1 rfl (by omega) ?_
    rintro p cap rest rfl hc1 hc2 hc3
    refine T.region (l := [0, 1, 2]) rfl ?_
    refine RN.m rfl ?_
    refine RN.a rfl ?_
    refine RN.a rfl ?_
    refine RN.nil ?_
    refine hK13 _ _ ?_
    refine T.ret ?_
    refine bodyQ_ret (arrR 59 60 5 b12 p cap ds rest) (RetRun.tmp (RetRun.tmp RetRun.nil)) (by unfold NewQ; rw [if_pos (by omega)]; exact ⟨b12, p, cap, ds, rest, rfl, rfl, hok, by simpa using hb, hc1, rfl⟩) (Ent.refl _)

end Go.Proofs.YtlbebaipmgjdbaaGreat
namespace Go.Proofs.YtlbebaipmgjdbaaGreat
open Go Go.Sl Go.Proofs
set_option maxRecDepth 20000
open Go.Mo
theorem Clone_spec (b off n c : Nat) (cs : List Value) (l : List UInt8) (hl : off + n ≤ cs.length) (hy : (cs.drop off).take n = l.map u8V) (hn : n ≤ 65536) : Ctr Tryz.prog 24 [slc b off n c] [row b 5 cs] (fun v Ps => v.oneCell' = true ∧ Ps = [vec 5 1 v n (l.map u8V), row b 5 cs]) := by
 refine Ctr.of_body Tryz.func24 rfl (by kernel_rfl) Tryz.ntmps24 rfl rfl (fun Fr => ?_)
 refine T.seq fun K1 hK1 => ?_
 refine T.region (l := [0]) rfl ?_
 refine RN.a rfl ?_
 refine RN.nil ?_
 refine hK1 _ _ ?_
 refine T.seq fun K2 hK2 => ?_
 refine T.seq fun K3 hK3 => ?_
 refine T.region (l := [0, 1]) rfl ?_
 refine RN.m rfl ?_
 refine RN.p rfl (p_sleql_nil rfl rfl rfl Tryz.underlying60) ?_
 refine RN.nil ?_
 refine hK3 _ _ ?_
 first | refine T.cond_dec rfl (fun h4 => ?_) (fun h4 => ?_) | refine T.cond rfl (fun h4 => ?_) (fun h4 => ?_)
 ·
  cases h4 --done
 ·
  refine T.skip ?_
  refine hK2 _ _ ?_
  refine T.seq fun K4 hK4 => ?_
  refine T.region (l := [0, 1, 2, 3]) rfl ?_
  refine RN.E rfl rfl rfl rfl (e_buildSlice0 rfl Tryz.underlying60 ti_5 rfl) ?_
  rintro _ _ ⟨b5, rfl, rfl⟩
  refine RN.ent (Ent.cons (vec_empty (sz := 1)) (Ent.refl _)) ?_
  refine RN.m rfl ?_
  refine RN.E rfl rfl rfl rfl (e_append rfl Tryz.underlying60 ni_60 ti_5 rfl rfl (i := 0) rfl (src_row (n := n) (i := 1) rfl (by omega) (by rw [Nat.mul_one]; exact hy)) one_u8 (by omega)) ?_
  rintro v7 _ ⟨hv7, rfl⟩
  refine RN.a rfl ?_
  refine RN.nil ?_
  refine hK4 _ _ ?_
  refine T.ret ?_
  rw [Nat.zero_add, List.nil_append]
  refine bodyQ_ret [vec 5 1 v7 n (l.map u8V), row b 5 cs] (RetRun.tmp RetRun.nil) ⟨hv7, rfl⟩ (Ent.refl _)

theorem Copy_spec (a p cap : Nat) (ds : List Sec) (rest : List Value) (hok : ∀ x ∈ ds, x.ok) (hl : 1 ≤ ds.length ∧ ds.length ≤ 512) : Ctr Tryz.prog 6 [ptr a 0] [row a 59 [slc p 0 ds.length cap], row p 60 (ds.map Sec.hdr ++ rest), sep (ds.map (Sec.own 5))] (fun v Ps => ∃ a2 p2 cap2 ds2 rest2, v = ptr a2 0 ∧ ds2.length = ds.length ∧ (∀ x ∈ ds2, x.ok) ∧ bytesOf ds2 = bytesOf ds ∧ ds2.length ≤ cap2 ∧ Ps = arrR 59 60 5 a2 p2 cap2 ds2 rest2 ++ arrR 59 60 5 a p cap ds rest) := by
 refine Ctr.of_body Tryz.func6 rfl (by kernel_rfl) Tryz.ntmps6 rfl rfl (fun Fr => ?_)
 refine T.seq fun K1 hK1 => ?_
 refine T.region (l := [0]) rfl ?_
 refine RN.a rfl ?_
 refine RN.nil ?_
 refine hK1 _ _ ?_
 refine T.seq fun K2 hK2 => ?_
 refine T.region (l := [0, 1, 2]) rfl ?_
 refine RN.p rfl (p_build rfl pl_59 ti_59 rfl) ?_
 refine RN.E rfl rfl rfl rfl (e_box rfl rfl rfl) ?_
 rintro _ _ ⟨b7, rfl, rfl⟩
 refine RN.ent (Ent.cons (Ent.refl _) (Ent.vec_nil' (el := 60) (sz := 1))) ?_
 refine RN.a rfl ?_
 refine RN.nil ?_
 refine hK2 _ _ ?_
 refine T.seq fun K3 hK3 => ?_
 refine T.seq fun K4 hK4 => ?_
 refine T.region (l := [0, 1, 2, 3, 4, 5]) rfl ?_
 refine RN.m rfl ?_
 refine RN.p rfl (p_nilCheck rfl rfl) ?_
 refine RN.p rfl (p_fieldAddr rfl fa_59_0 rfl) ?_
 refine RN.u rfl (q_load rfl sc_57 rfl (i := 2) rfl rfl) ?_
 refine RN.p rfl (p_len rfl Tryz.underlying57 rfl) ?_
 refine RN.m rfl ?_
 refine RN.nil ?_
 refine hK4 _ _ ?_
 refine T.block ?_
 refine T.loop (G := Nat × Value × List Sec) (fun ⟨k, v, d2⟩ => k ≤ ds.length ∧ d2.length = k ∧ (∀ x ∈ d2, x.ok) ∧ bytesOf d2 = (bytesOf ds).take k) (fun ⟨k, v, d2⟩ => [(3, ptr b7 0), (11, slc p 0 ds.length cap), (12, .int .i64 ds.length), (13, .int .i64 k)]) (fun ⟨k, v, d2⟩ => [row b7 59 [v], vec 60 1 v k (d2.map Sec.hdr), sep (d2.map (Sec.own 5)), row a 59 [slc p 0 ds.length cap], row p 60 (ds.map Sec.hdr ++ rest), sep (ds.map (Sec.own 5)), Fr]) (fun ⟨k, v, d2⟩ => ds.length - k) (0, .slice none 0 0, []) ⟨by omega, rfl, by simp, rfl⟩ (LiveIs.cons rfl (LiveIs.cons rfl (LiveIs.cons rfl (LiveIs.cons rfl LiveIs.nil)))) ?_ ?_
 · exact Ent.cons (Ent.refl _) (Ent.cons (Ent.refl _) (Ent.unflat [] _))
 rintro ⟨k, v, d2⟩ e5 ⟨hkk, hd, hok2, hb⟩
 dsimp only
 refine T.seq fun K6 hK6 => ?_
 refine T.region (l := [0]) rfl ?_
 refine RN.p rfl (p_lss rfl rfl rfl) ?_
 refine RN.nil ?_
 refine hK6 _ _ ?_
 refine T.seq fun K7 hK7 => ?_
 first | refine T.cond_dec rfl (fun h14 => ?_) (fun h14 => ?_) | refine T.cond rfl (fun h14 => ?_) (fun h14 => ?_)
 ·
  have hk : k < ds.length := by omega
  refine T.skip ?_
  refine hK7 _ _ ?_
  refine T.seq fun K8 hK8 => ?_
  refine T.block ?_
  refine T.seq fun K9 hK9 => ?_
  refine T.region (l := [0, 1, 2]) rfl ?_
  refine RN.p rfl (by first | exact (p_indexAddr1N rfl Tryz.underlying57 ts_60 rfl rfl (by omega)) | exact (p_indexAddr1 rfl Tryz.underlying57 ts_60 rfl rfl (by omega))) ?_
  refine RN.u rfl (q_load rfl sc_60 rfl (i := 4) rfl (hdr_get hk)) ?_
  refine RN.a rfl ?_
  refine RN.nil ?_
  refine hK9 _ _ ?_
  refine T.regionD (z := 11) (Bs := [row b7 59 [v]]) (l := [(0, .pure), (1, .pure), (2, .pure), (3, .pure), (4, .load), (5, .pure), (6, .eff), (7, .eff), (8, .eff), (9, .pure), (10, .pure), (11, .eff)]) mixed (by kernel_rfl) (by first | exact Ent.refl _ | exact Ent.pull_drop (is := [0]) rfl | exact Ent.pull_drop (is := [1]) rfl | exact Ent.pull_drop (is := [2]) rfl | exact Ent.pull_drop (is := [3]) rfl | exact Ent.pull_drop (is := [4]) rfl | exact Ent.pull_drop (is := [5]) rfl | exact Ent.pull_drop (is := [6]) rfl | exact Ent.pull_drop (is := [7]) rfl) ?_
  refine RD.n rfl (p_move rfl (by conv => lhs; whnf)) ?_
  refine RD.n rfl (p_move rfl (by conv => lhs; whnf)) ?_
  refine RD.n rfl (p_nilCheck rfl rfl) ?_
  refine RD.n rfl (p_fieldAddr rfl fa_59_0 rfl) ?_
  refine RD.qq rfl rfl rfl rfl (by first | exact (q_load rfl sc_57 rfl (i := 0) rfl rfl) | exact (q_load rfl sc_57 rfl (i := 1) rfl rfl) | exact (q_load rfl sc_57 rfl (i := 2) rfl rfl) | exact (q_load rfl sc_57 rfl (i := 3) rfl rfl) | exact (q_load rfl sc_57 rfl (i := 4) rfl rfl)) (by first | exact Ent.refl _ | exact Ent.pull_drop (is := [0]) rfl | exact Ent.pull_drop (is := [1]) rfl | exact Ent.pull_drop (is := [2]) rfl | exact Ent.pull_drop (is := [3]) rfl | exact Ent.pull_drop (is := [4]) rfl | exact Ent.pull_drop (is := [5]) rfl | exact Ent.pull_drop (is := [6]) rfl | exact Ent.pull_drop (is := [7]) rfl) ?_
  refine RD.n rfl (p_move rfl (by conv => lhs; whnf)) ?_
  refine RD.ent (Ent.inside (i := 5) rfl (own_nth hk)) ?_
  refine RD.C [0] rfl rfl rfl rfl (c_call rfl rfl) (Clone_spec ds[k].b 0 32 ds[k].cap (ds[k].s.map u8V ++ ds[k].rest) ds[k].s (by simp [show ds[k].s.length = 32 from ok_get hok hk]) (by rw [List.drop_zero, List.take_left' (by simp [show ds[k].s.length = 32 from ok_get hok hk])]) (by omega)) rfl (by rintro _ _ ⟨_, rfl⟩; exact .inl (by first | exact Ent.refl _ | exact Ent.pull_drop (is := [0]) rfl | exact Ent.pull_drop (is := [1]) rfl | exact Ent.pull_drop (is := [2]) rfl | exact Ent.pull_drop (is := [3]) rfl | exact Ent.pull_drop (is := [4]) rfl | exact Ent.pull_drop (is := [5]) rfl | exact Ent.pull_drop (is := [6]) rfl | exact Ent.pull_drop (is := [7]) rfl)) ?_
  rintro v23 _ ⟨hv23, rfl⟩
  refine RD.ent (Ent.cons (Ent.refl _) (own_back hk)) ?_
  refine RD.openVec 0 rfl (by omega) ?_
  rintro b23 cap23 rest23 rfl hq1 hq2 hq3
  refine RD.E rfl rfl rfl rfl (e_buildSlice1 rfl Tryz.underlying57 ti_60 rfl (by conv => lhs; whnf) rfl) (by rintro _ _ ⟨_, rfl, rfl⟩; exact .inl (by first | exact Ent.refl _ | exact Ent.pull_drop (is := [0]) rfl | exact Ent.pull_drop (is := [1]) rfl | exact Ent.pull_drop (is := [2]) rfl | exact Ent.pull_drop (is := [3]) rfl | exact Ent.pull_drop (is := [4]) rfl | exact Ent.pull_drop (is := [5]) rfl | exact Ent.pull_drop (is := [6]) rfl | exact Ent.pull_drop (is := [7]) rfl)) ?_
  rintro _ _ ⟨b24, rfl, rfl⟩
  refine RD.E rfl rfl rfl rfl (e_append rfl Tryz.underlying57 ni_57 ti_60 rfl rfl (i := 4) rfl (src_full (i := 0) rfl rfl) (by first | exact one_one rfl | simp [Value.oneCell']) (by omega)) (by rintro _ _ ⟨_, rfl⟩; exact .inl (by first | exact Ent.refl _ | exact Ent.pull_drop (is := [0]) rfl | exact Ent.pull_drop (is := [1]) rfl | exact Ent.pull_drop (is := [2]) rfl | exact Ent.pull_drop (is := [3]) rfl | exact Ent.pull_drop (is := [4]) rfl | exact Ent.pull_drop (is := [5]) rfl | exact Ent.pull_drop (is := [6]) rfl | exact Ent.pull_drop (is := [7]) rfl)) ?_
  rintro v25 _ ⟨hv25, rfl⟩
  simp only [setN]
  refine RD.n rfl (p_nilCheck rfl rfl) ?_
  refine RD.n rfl (p_fieldAddr rfl fa_59_0 rfl) ?_
  refine RD.EN rfl rfl rfl (by first | exact (e_store rfl ts_57 rfl (by conv => lhs; whnf) (by first | rfl | assumption) (i := 0) rfl (by simp)) | exact (e_store rfl ts_57 rfl (by conv => lhs; whnf) (by first | rfl | assumption) (i := 1) rfl (by simp)) | exact (e_store rfl ts_57 rfl (by conv => lhs; whnf) (by first | rfl | assumption) (i := 2) rfl (by simp)) | exact (e_store rfl ts_57 rfl (by conv => lhs; whnf) (by first | rfl | assumption) (i := 3) rfl (by simp)) | exact (e_store rfl ts_57 rfl (by conv => lhs; whnf) (by first | rfl | assumption) (i := 4) rfl (by simp))) (fun _ _ _ => .inr rfl) ?_
  rintro _ _ ⟨rfl, rfl⟩
  refine RD.nil ?_
  refine hK8 _ _ ?_
  refine T.region (l := [0, 1]) rfl ?_
  refine RN.p rfl (by first | exact (p_addN (b := 1) rfl rfl rfl (by omega)) | exact (p_add rfl rfl rfl (by omega))) ?_
  refine RN.m rfl ?_
  refine RN.nil ?_
  refine ⟨(k + 1, v25, d2 ++ [⟨b23, cap23, ds[k].s, rest23⟩]), ?_, (by simp; omega), (LiveIs.cons rfl (LiveIs.cons rfl (LiveIs.cons rfl (LiveIs.cons rfl LiveIs.nil)))), ?_⟩
  ·
   refine ⟨by omega, by simp [hd], ?_, ?_⟩
   ·
    intro x hx
    rcases List.mem_append.1 hx with h | h
    · exact hok2 x h
    · rw [List.mem_singleton.1 h]; exact ok_get hok hk
   ·
    show bytesOf (d2 ++ [(⟨b23, cap23, ds[k].s, rest23⟩ : Sec)]) = (bytesOf ds).take (k + 1)
    rw [bytesOf, List.map_append, List.take_succ_eq_append_getElem (by simpa using hk), ← hb]
    simp
  ·
   refine (Ent.pull_drop (is := [1, 4, 2, 2, 2, 2, 1, 1]) rfl).trans ?_
   refine Ent.trans (own_push (TB := 5) (ds := d2) (d := (⟨b23, cap23, ds[k].s, rest23⟩ : Sec))) ?_
   refine (Ent.pull_drop (is := [1, 1, 0, 0, 0, 0, 0]) rfl).trans (Ent.of_eq ?_)
   simp only [List.map_append]
   rfl
 ·
  have hkl : d2.length = ds.length := by omega
  refine T.exit ?_
  refine Post.seq_x ?_
  refine Post.seq_x ?_
  refine Post.block_hit ?_
  refine hK3 _ _ ?_
  refine T.seq fun K10 hK10 => ?_
  subst hd
  refine T.openVec 1 rfl (by omega) ?_
  rintro p2 cap2 rest2 rfl hc1 hc2 hc3
  refine T.region (l := [0, 1]) rfl ?_
  refine RN.m rfl ?_
  refine RN.a rfl ?_
  refine RN.nil ?_
  refine hK10 _ _ ?_
  refine T.ret ?_
  refine bodyQ_ret (arrR 59 60 5 b7 p2 cap2 d2 rest2 ++ arrR 59 60 5 a p cap ds rest) (RetRun.tmp RetRun.nil) ⟨b7, p2, cap2, d2, rest2, rfl, hkl, hok2, by rw [hb, hkl, List.take_of_length_le (by simp)], hc1, rfl⟩ (Ent.refl _)

end Go.Proofs.YtlbebaipmgjdbaaGreat
namespace Go.Proofs.YtlbebaipmgjdbaaGreat
open Go Go.Sl Go.Proofs
set_option maxRecDepth 20000
open Go.Mo
theorem Cap_spec (l : List UInt8) (hl : l.length ≤ 1099511627776) : Ctr Tryz.prog 25 [strV l] [] (fun v Ps => v = intV (l.length / 32) ∧ Ps = []) := by
 refine Ctr.of_body Tryz.func25 rfl (by kernel_rfl) Tryz.ntmps25 rfl rfl (fun Fr => ?_)
 refine T.seq fun K1 hK1 => ?_
 refine T.region (l := [0]) rfl ?_
 refine RN.a rfl ?_
 refine RN.nil ?_
 refine hK1 _ _ ?_
 refine T.seq fun K2 hK2 => ?_
 refine T.region (l := [0, 1, 2, 3]) rfl ?_
 refine RN.m rfl ?_
 refine RN.p rfl (p_len_s rfl Tryz.underlying9 rfl) ?_
 refine RN.p rfl (by first | exact (p_quoN (b := 32) rfl rfl rfl (by omega)) | exact (p_quo rfl rfl rfl (by omega))) ?_
 refine RN.a rfl ?_
 refine RN.nil ?_
 refine hK2 _ _ ?_
 refine T.ret ?_
 refine bodyQ_ret [] (RetRun.tmp RetRun.nil) ⟨rfl, rfl⟩ (Ent.refl _)

theorem RNew_spec (n : Nat) (hl : n ≤ 65536) : Ctr Tryz.prog 7 [intV n] [] (fun v Ps => v = strV (List.replicate (n * 32) 0) ∧ Ps = []) := by
 refine Ctr.of_body Tryz.func7 rfl (by kernel_rfl) Tryz.ntmps7 rfl rfl (fun Fr => ?_)
 refine T.seq fun K1 hK1 => ?_
 refine T.region (l := [0]) rfl ?_
 refine RN.a rfl ?_
 refine RN.nil ?_
 refine hK1 _ _ ?_
 refine T.seq fun K2 hK2 => ?_
 refine T.region (l := [0, 1, 2, 3, 4]) rfl ?_
 refine RN.m rfl ?_
 refine RN.p rfl (by first | exact (p_mulN (b := 32) rfl rfl rfl (by omega)) | exact (p_mul rfl rfl rfl (by omega))) ?_
 refine RN.E rfl rfl rfl rfl (by first | exact (e_makeSliceN rfl Tryz.underlying60 ti_5 rfl rfl rfl (by omega)) | exact (e_makeSlice rfl Tryz.underlying60 ti_5 rfl rfl rfl (by omega))) ?_
 rintro _ _ ⟨b5, rfl, rfl⟩
 refine RN.u rfl (q_bytes_str rfl Tryz.underlying60 Tryz.underlying5 Tryz.underlying9 rfl (i := 0) rfl (l := List.replicate (n * 32) 0) (by simp [zeros]) (by rw [List.drop_zero, List.take_of_length_le (by simp [zeros]), List.map_replicate]; simp [zeros])) ?_
 refine RN.a rfl ?_
 refine RN.nil ?_
 refine hK2 _ _ ?_
 refine T.ret ?_
 refine bodyQ_ret [] (RetRun.tmp RetRun.nil) ⟨rfl, rfl⟩ (Ent.drop _ _)

theorem RRead_spec (l : List UInt8) (lba n : Int) (hl : l.length ≤ 1099511627776) : Ctr Tryz.prog 12 [strV l, .int .i64 lba, .int .i64 n] [] (fun v Ps => v = .tuple #[strV (if Right (l.length / 32 : Nat) lba n then (l.drop (lba.toNat * 32)).take (n.toNat * 32) else []), .bool (decide (Right (l.length / 32 : Nat) lba n))] ∧ Ps = []) := by
 refine Ctr.of_body Tryz.func12 rfl (by kernel_rfl) Tryz.ntmps12 rfl rfl (fun Fr => ?_)
 refine T.seq fun K1 hK1 => ?_
 refine T.region (l := [0, 1]) rfl ?_
 refine RN.a rfl ?_
 refine RN.a rfl ?_
 refine RN.nil ?_
 refine hK1 _ _ ?_
 refine T.seq fun K2 hK2 => ?_
 refine T.seq fun K3 hK3 => ?_
 refine T.region (l := [0, 1, 2, 3, 4, 5]) rfl ?_
 refine RN.m rfl ?_
 refine RN.C [] rfl rfl rfl rfl (c_call rfl rfl) (Cap_spec l hl) rfl ?_
 rintro _ _ ⟨rfl, rfl⟩
 refine RN.m rfl ?_
 refine RN.m rfl ?_
 refine RN.C [] rfl rfl rfl rfl (c_call rfl rfl) (Right9_spec (l.length / 32 : Nat) lba n (by omega)) rfl ?_
 rintro _ _ ⟨rfl, rfl⟩
 refine RN.p rfl (by first | exact (p_not_dec rfl rfl) | exact (p_not rfl rfl)) ?_
 refine RN.nil ?_
 refine hK3 _ _ ?_
 first | refine T.cond_dec rfl (fun h13 => ?_) (fun h13 => ?_) | refine T.cond rfl (fun h13 => ?_) (fun h13 => ?_)
 ·
  have hR : ¬ Right (l.length / 32 : Nat) lba n := h13
  refine T.seq fun K4 hK4 => ?_
  refine T.region (l := [0, 1]) rfl ?_
  refine RN.a rfl ?_
  refine RN.a rfl ?_
  refine RN.nil ?_
  refine hK4 _ _ ?_
  refine T.ret ?_
  refine Post.seq_r ?_
  refine bodyQ_ret [] (RetRun.tmp (RetRun.tmp RetRun.nil)) ⟨by rw [if_neg hR, decide_eq_false hR]; rfl, rfl⟩ (Ent.refl _)
 ·
  have hR : Right (l.length / 32 : Nat) lba n := Classical.not_not.1 h13
  have hR2 := hR
  unfold Right at hR2
  obtain ⟨lb, rfl⟩ := Int.eq_ofNat_of_zero_le hR2.2.2.1
  obtain ⟨nn, rfl⟩ := Int.eq_ofNat_of_zero_le (show 0 ≤ n by omega)
  refine T.skip ?_
  refine hK2 _ _ ?_
  refine T.seq fun K5 hK5 => ?_
  refine T.region (l := [0, 1, 2, 3, 4, 5, 6, 7, 8, 9]) rfl ?_
  refine RN.m rfl ?_
  refine RN.m rfl ?_
  refine RN.p rfl (by first | exact (p_mulN (b := 32) rfl rfl rfl (by omega)) | exact (p_mul rfl rfl rfl (by omega))) ?_
  refine RN.m rfl ?_
  refine RN.m rfl ?_
  refine RN.p rfl (by first | exact (p_addN rfl rfl rfl (by omega)) | exact (p_add rfl rfl rfl (by omega))) ?_
  refine RN.p rfl (by first | exact (p_mulN (b := 32) rfl rfl rfl (by omega)) | exact (p_mul rfl rfl rfl (by omega))) ?_
  refine RN.p rfl (by first | exact (p_sliceN_s rfl Tryz.underlying9 rfl rfl rfl (by omega)) | exact (p_slice_s rfl Tryz.underlying9 rfl rfl rfl (by omega))) ?_
  refine RN.a rfl ?_
  refine RN.a rfl ?_
  refine RN.nil ?_
  refine hK5 _ _ ?_
  refine T.ret ?_
  refine bodyQ_ret [] (RetRun.tmp (RetRun.tmp RetRun.nil)) ⟨by rw [if_pos hR, decide_eq_true hR, Int.toNat_natCast, Int.toNat_natCast, List.take_drop, ← Nat.add_mul]; rfl, rfl⟩ (Ent.refl _)

theorem RWrite_spec (l : List UInt8) (lba n : Int) (data : List UInt8) (hl : l.length ≤ 1099511627776) (hd : data.length ≤ 140737488351232) : Ctr Tryz.prog 9 [strV l, .int .i64 lba, .int .i64 n, strV data] [] (fun v Ps => v = .tuple #[strV (if Right (l.length / 32 : Nat) lba n then l.take (lba.toNat * 32) ++ padN (n.toNat * 32) data ++ l.drop ((lba.toNat + n.toNat) * 32) else l), .bool (decide (Right (l.length / 32 : Nat) lba n))] ∧ Ps = []) := by
 refine Ctr.of_body Tryz.func9 rfl (by kernel_rfl) Tryz.ntmps9 rfl rfl (fun Fr => ?_)
 refine T.seq fun K1 hK1 => ?_
 refine T.region (l := [0, 1]) rfl ?_
 refine RN.a rfl ?_
 refine RN.a rfl ?_
 refine RN.nil ?_
 refine hK1 _ _ ?_
 refine T.seq fun K2 hK2 => ?_
 refine T.seq fun K3 hK3 => ?_
 refine T.region (l := [0, 1, 2, 3, 4, 5]) rfl ?_
 refine RN.m rfl ?_
 refine RN.C [] rfl rfl rfl rfl (c_call rfl rfl) (Cap_spec l hl) rfl ?_
 rintro _ _ ⟨rfl, rfl⟩
 refine RN.m rfl ?_
 refine RN.m rfl ?_
 refine RN.C [] rfl rfl rfl rfl (c_call rfl rfl) (Right9_spec (l.length / 32 : Nat) lba n (by omega)) rfl ?_
 rintro _ _ ⟨rfl, rfl⟩
 refine RN.p rfl (by first | exact (p_not_dec rfl rfl) | exact (p_not rfl rfl)) ?_
 refine RN.nil ?_
 refine hK3 _ _ ?_
 first | refine T.cond_dec rfl (fun h17 => ?_) (fun h17 => ?_) | refine T.cond rfl (fun h17 => ?_) (fun h17 => ?_)
 ·
  have hR : ¬ Right (l.length / 32 : Nat) lba n := h17
  refine T.seq fun K4 hK4 => ?_
  refine T.region (l := [0, 1, 2]) rfl ?_
  refine RN.m rfl ?_
  refine RN.a rfl ?_
  refine RN.a rfl ?_
  refine RN.nil ?_
  refine hK4 _ _ ?_
  refine T.ret ?_
  refine Post.seq_r ?_
  refine bodyQ_ret [] (RetRun.tmp (RetRun.tmp RetRun.nil)) ⟨by rw [if_neg hR, decide_eq_false hR]; rfl, rfl⟩ (Ent.refl _)
 ·
  have hR : Right (l.length / 32 : Nat) lba n := Classical.not_not.1 h17
  have hR2 := hR
  unfold Right at hR2
  obtain ⟨lb, rfl⟩ := Int.eq_ofNat_of_zero_le hR2.2.2.1
  obtain ⟨nn, rfl⟩ := Int.eq_ofNat_of_zero_le (show 0 ≤ n by omega)
  refine T.skip ?_
  refine hK2 _ _ ?_
  refine T.seq fun K5 hK5 => ?_
  refine T.region (l := [0, 1, 2, 3]) rfl ?_
  refine RN.m rfl ?_
  refine RN.p rfl (by first | exact (p_mulN (b := 32) rfl rfl rfl (by omega)) | exact (p_mul rfl rfl rfl (by omega))) ?_
  refine RN.E rfl rfl rfl rfl (by first | exact (e_makeSliceN rfl Tryz.underlying60 ti_5 rfl rfl rfl (by omega)) | exact (e_makeSlice rfl Tryz.underlying60 ti_5 rfl rfl rfl (by omega))) ?_
  rintro _ _ ⟨b21, rfl, rfl⟩
  refine RN.a rfl ?_
  refine RN.nil ?_
  refine hK5 _ _ ?_
  refine T.seq fun K6 hK6 => ?_
  refine T.seq fun K7 hK7 => ?_
  refine T.region (l := [0]) rfl ?_
  refine RN.a rfl ?_
  refine RN.nil ?_
  refine hK7 _ _ ?_
  refine T.block ?_
  refine T.loop (G := Nat) (fun i => i ≤ nn * 32 ∧ i ≤ data.length) (fun i => [(0, strV l), (1, .int .i64 lb), (2, .int .i64 nn), (3, strV data), (10, slc b21 0 (nn * 32) (nn * 32)), (11, intV i)]) (fun i => [row b21 5 ((data.take i).map u8V ++ List.replicate (nn * 32 - i) (u8V 0)), Fr]) (fun i => nn * 32 - i) 0 ⟨by omega, by omega⟩ (LiveIs.cons rfl (LiveIs.cons rfl (LiveIs.cons rfl (LiveIs.cons rfl (LiveIs.cons rfl (LiveIs.cons rfl LiveIs.nil)))))) ?_ ?_
  ·
   refine Ent.of_eq ?_
   simp [zeros]
   rfl
  rintro i e8 ⟨hi, hdi⟩
  refine T.seq fun K9 hK9 => ?_
  refine T.seq fun K10 hK10 => ?_
  refine T.region (l := [0, 1, 2, 3, 4, 5, 6, 7, 8, 9]) rfl ?_
  refine RN.m rfl ?_
  refine RN.m rfl ?_
  refine RN.p rfl (p_len rfl Tryz.underlying60 rfl) ?_
  refine RN.p rfl (p_lss rfl rfl rfl) ?_
  refine RN.m rfl ?_
  first | refine RN.split_dec 26 rfl (fun h26 => ?_) (fun h26 => ?_) | refine RN.split 26 rfl (fun h26 => ?_) (fun h26 => ?_)
  ·
   have hi1 : i < nn * 32 := by omega
   refine RN.m rfl ?_
   refine RN.m rfl ?_
   refine RN.p rfl (p_len_s rfl Tryz.underlying9 rfl) ?_
   refine RN.p rfl (p_lss rfl rfl rfl) ?_
   refine RN.pt rfl ?_
   refine RN.nil ?_
   refine hK10 _ _ ?_
   first | refine T.cond_dec rfl (fun h31 => ?_) (fun h31 => ?_) | refine T.cond rfl (fun h31 => ?_) (fun h31 => ?_)
   ·
    have hi2 : i < data.length := by omega
    refine T.skip ?_
    refine hK9 _ _ ?_
    refine T.seq fun K11 hK11 => ?_
    refine T.block ?_
    refine T.region (l := [0, 1, 2, 3, 4, 5, 6]) rfl ?_
    refine RN.m rfl ?_
    refine RN.m rfl ?_
    refine RN.m rfl ?_
    refine RN.m rfl ?_
    refine RN.p rfl (by first | exact (p_indexN_s rfl Tryz.underlying9 rfl rfl (List.getElem?_eq_getElem hi2)) | exact (p_index_s rfl Tryz.underlying9 rfl rfl (List.getElem?_eq_getElem hi2))) ?_
    refine RN.p rfl (by first | exact (p_indexAddr1N rfl Tryz.underlying60 ts_5 rfl rfl (by omega)) | exact (p_indexAddr1 rfl Tryz.underlying60 ts_5 rfl rfl (by omega))) ?_
    refine RN.EN rfl rfl rfl (by first | exact (e_store rfl ts_5 rfl (by conv => lhs; whnf) (by first | rfl | assumption) (i := 0) rfl (by simp; omega)) | exact (e_store rfl ts_5 rfl (by conv => lhs; whnf) (by first | rfl | assumption) (i := 1) rfl (by simp; omega)) | exact (e_store rfl ts_5 rfl (by conv => lhs; whnf) (by first | rfl | assumption) (i := 2) rfl (by simp; omega)) | exact (e_store rfl ts_5 rfl (by conv => lhs; whnf) (by first | rfl | assumption) (i := 3) rfl (by simp; omega)) | exact (e_store rfl ts_5 rfl (by conv => lhs; whnf) (by first | rfl | assumption) (i := 4) rfl (by simp; omega))) ?_
    rintro _ _ ⟨rfl, rfl⟩
    refine RN.nil ?_
    refine hK11 _ _ ?_
    refine T.region (l := [0, 1, 2]) rfl ?_
    refine RN.m rfl ?_
    refine RN.p rfl (by first | exact (p_addN (b := 1) rfl rfl rfl (by omega)) | exact (p_add rfl rfl rfl (by omega))) ?_
    refine RN.a rfl ?_
    refine RN.nil ?_
    refine ⟨i + 1, ⟨by omega, by omega⟩, (by omega), (LiveIs.cons rfl (LiveIs.cons rfl (LiveIs.cons rfl (LiveIs.cons rfl (LiveIs.cons rfl (LiveIs.cons rfl LiveIs.nil)))))), ?_⟩
    exact Ent.of_eq (by simp only [setN]; rw [pad_set hi2 hi1])
   ·
    have hx := pad_all (data := data) (i := i) (m := nn * 32) (by omega) hi hdi
    refine T.exit ?_
    refine Post.seq_x ?_
    refine Post.seq_x ?_
    refine Post.block_hit ?_
    refine hK6 _ _ ?_
    refine T.seq fun K12 hK12 => ?_
    refine T.regionD (z := 16) (Bs := _) (l := [(0, .pure), (1, .pure), (2, .pure), (3, .pure), (4, .pure), (5, .load), (6, .pure), (7, .pure), (8, .pure), (9, .pure), (10, .pure), (11, .pure), (12, .pure), (13, .pure), (14, .pure), (15, .pure)]) mixed (by kernel_rfl) (Ent.refl _) ?_
    refine RD.n rfl (p_move rfl (by conv => lhs; whnf)) ?_
    refine RD.n rfl (p_move rfl (by conv => lhs; whnf)) ?_
    refine RD.n rfl (by first | exact (p_mulN (b := 32) rfl rfl rfl (by omega)) | exact (p_mul rfl rfl rfl (by omega))) ?_
    refine RD.n rfl (by first | exact (p_slice_s_hi rfl Tryz.underlying9 rfl rfl (by omega)) | exact (p_sliceN_s (l := 0) rfl Tryz.underlying9 rfl rfl rfl (by omega)) | exact (p_slice_s rfl Tryz.underlying9 rfl rfl rfl (by omega))) ?_
    refine RD.n rfl (p_move rfl (by conv => lhs; whnf)) ?_
    refine RD.qq rfl rfl rfl rfl (q_bytes_str rfl Tryz.underlying60 Tryz.underlying5 Tryz.underlying9 rfl (i := 0) rfl (l := padN (nn * 32) data) (by simp; omega) (by rw [List.drop_zero, hx, List.take_of_length_le (by simp [padN_length])])) (Ent.refl _) ?_
    refine RD.n rfl (p_sadd rfl rfl rfl (by simp [padN_length]; omega)) ?_
    refine RD.n rfl (p_move rfl (by conv => lhs; whnf)) ?_
    refine RD.n rfl (p_move rfl (by conv => lhs; whnf)) ?_
    refine RD.n rfl (p_move rfl (by conv => lhs; whnf)) ?_
    refine RD.n rfl (by first | exact (p_addN rfl rfl rfl (by omega)) | exact (p_add rfl rfl rfl (by omega))) ?_
    refine RD.n rfl (by first | exact (p_mulN (b := 32) rfl rfl rfl (by omega)) | exact (p_mul rfl rfl rfl (by omega))) ?_
    refine RD.n rfl (by first | exact (p_slice_s_lo rfl Tryz.underlying9 rfl rfl (by omega)) | exact (p_sliceN_s rfl Tryz.underlying9 rfl rfl rfl (by omega)) | exact (p_slice_s rfl Tryz.underlying9 rfl rfl rfl (by omega))) ?_
    refine RD.n rfl (p_sadd rfl rfl rfl (by simp [padN_length]; omega)) ?_
    refine RD.n rfl (p_assign rfl (by conv => lhs; whnf)) ?_
    refine RD.n rfl (p_assign rfl (by conv => lhs; whnf)) ?_
    refine RD.nil ?_
    refine hK12 _ _ ?_
    refine T.ret ?_
    refine bodyQ_ret [] (RetRun.tmp (RetRun.tmp RetRun.nil)) ⟨by rw [if_pos hR, decide_eq_true hR, Int.toNat_natCast, Int.toNat_natCast]; rfl, rfl⟩ (Ent.drop _ _)
  ·
   have hx := pad_all (data := data) (i := i) (m := nn * 32) (by omega) hi hdi
   refine RN.no0 rfl ?_
   refine RN.no0 rfl ?_
   refine RN.no0 rfl ?_
   refine RN.no0 rfl ?_
   refine RN.pf rfl ?_
   refine RN.nil ?_
   refine hK10 _ _ ?_
   refine T.cond_f rfl ?_
   refine T.exit ?_
   refine Post.seq_x ?_
   refine Post.seq_x ?_
   refine Post.block_hit ?_
   refine hK6 _ _ ?_
   refine T.seq fun K13 hK13 => ?_
   refine T.regionD (z := 16) (Bs := _) (l := [(0, .pure), (1, .pure), (2, .pure), (3, .pure), (4, .pure), (5, .load), (6, .pure), (7, .pure), (8, .pure), (9, .pure), (10, .pure), (11, .pure), (12, .pure), (13, .pure), (14, .pure), (15, .pure)]) mixed (by kernel_rfl) (Ent.refl _) ?_
   refine RD.n rfl (p_move rfl (by conv => lhs; whnf)) ?_
   refine RD.n rfl (p_move rfl (by conv => lhs; whnf)) ?_
   refine RD.n rfl (by first | exact (p_mulN (b := 32) rfl rfl rfl (by omega)) | exact (p_mul rfl rfl rfl (by omega))) ?_
   refine RD.n rfl (by first | exact (p_slice_s_hi rfl Tryz.underlying9 rfl rfl (by omega)) | exact (p_sliceN_s (l := 0) rfl Tryz.underlying9 rfl rfl rfl (by omega)) | exact (p_slice_s rfl Tryz.underlying9 rfl rfl rfl (by omega))) ?_
   refine RD.n rfl (p_move rfl (by conv => lhs; whnf)) ?_
   refine RD.qq rfl rfl rfl rfl (q_bytes_str rfl Tryz.underlying60 Tryz.underlying5 Tryz.underlying9 rfl (i := 0) rfl (l := padN (nn * 32) data) (by simp; omega) (by rw [List.drop_zero, hx, List.take_of_length_le (by simp [padN_length])])) (Ent.refl _) ?_
   refine RD.n rfl (p_sadd rfl rfl rfl (by simp [padN_length]; omega)) ?_
   refine RD.n rfl (p_move rfl (by conv => lhs; whnf)) ?_
   refine RD.n rfl (p_move rfl (by conv => lhs; whnf)) ?_
   refine RD.n rfl (p_move rfl (by conv => lhs; whnf)) ?_
   refine RD.n rfl (by first | exact (p_addN rfl rfl rfl (by omega)) | exact (p_add rfl rfl rfl (by omega))) ?_
   refine RD.n rfl (by first | exact (p_mulN (b := 32) rfl rfl rfl (by omega)) | exact (p_mul rfl rfl rfl (by omega))) ?_
   refine RD.n rfl (by first | exact (p_slice_s_lo rfl Tryz.underlying9 rfl rfl (by omega)) | exact (p_sliceN_s rfl Tryz.underlying9 rfl rfl rfl (by omega)) | exact (p_slice_s rfl Tryz.underlying9 rfl rfl rfl (by omega))) ?_
   refine RD.n rfl (p_sadd rfl rfl rfl (by simp [padN_length]; omega)) ?_
   refine RD.n rfl (p_assign rfl (by conv => lhs; whnf)) ?_
   refine RD.n rfl (p_assign rfl (by conv => lhs; whnf)) ?_
   refine RD.nil ?_
   refine hK13 _ _ ?_
   refine T.ret ?_
   refine bodyQ_ret [] (RetRun.tmp (RetRun.tmp RetRun.nil)) ⟨by rw [if_pos hR, decide_eq_true hR, Int.toNat_natCast, Int.toNat_natCast]; rfl, rfl⟩ (Ent.drop _ _)

end Go.Proofs.YtlbebaipmgjdbaaGreat
namespace Go.Proofs.YtlbebaipmgjdbaaGreat
open Go Go.Sl Go.Proofs
set_option maxRecDepth 20000
open Go.Mo
theorem Read_A (a : Nat) (t : List UInt8) (lba n : Int) : Ctr Tryz.prog 136 [ptr a 0, .int .i64 lba, .int .i64 n] [arrA 59 60 5 a t] (fun v Ps => v = .tuple #[strV (rdT t lba n), .int .i64 (erT t lba n)] ∧ Ps = [arrA 59 60 5 a t]) := by
 refine Ctr.arr (R := []) ⟨_, Tryz.func136, by kernel_rfl, by kernel_rfl⟩ fun p cap ds rest hok hb hc => ?_
 subst hc
 refine (Read_spec a p cap ds rest lba n hok hb.2.1 hb.2.2).mono (Ent.refl _) ?_
 rintro v Ps ⟨rfl, rfl⟩
 refine ⟨_, ⟨?_, rfl⟩, arr_close (R := []) hok hb rfl⟩
 unfold rdT erT
 rw [cat_cap hok]
 by_cases hR : Right ds.length lba n
 · rw [if_pos hR, if_pos hR, if_pos hR, read_flat hok]
 · rw [if_neg hR, if_neg hR, if_neg hR]
theorem Write_A (a : Nat) (t : List UInt8) (lba n : Int) (data : List UInt8) : Ctr Tryz.prog 28 [ptr a 0, .int .i64 lba, .int .i64 n, strV data] [arrA 59 60 5 a t] (fun v Ps => v = .int .i64 (erT t lba n) ∧ Ps = [arrA 59 60 5 a (wrT t lba n data)]) := by
 refine Ctr.arr (R := []) ⟨_, Tryz.func28, by kernel_rfl, by kernel_rfl⟩ fun p cap ds rest hok hb hc => ?_
 subst hc
 refine (Write_spec a p cap ds rest lba n data hok hb.2.1).mono (Ent.refl _) ?_
 rintro v Ps ⟨rfl, ds2, hok2, hb2, rfl⟩
 obtain ⟨h1, h2⟩ := write_law hok hb2
 refine ⟨_, ⟨?_, rfl⟩, arr_close (R := []) hok2 (by rw [h2]; exact hb) ?_⟩
 ·
  unfold erT
  rw [cat_cap hok]
 ·
  rw [← h1]
  unfold wrT
  rw [cat_cap hok]
theorem Trim_A (a : Nat) (t : List UInt8) (lba n : Int) : Ctr Tryz.prog 15 [ptr a 0, .int .i64 lba, .int .i64 n] [arrA 59 60 5 a t] (fun v Ps => v = .int .i64 (erT t lba n) ∧ Ps = [arrA 59 60 5 a (wrT t lba n [])]) := by
 refine Ctr.arr (R := []) ⟨_, Tryz.func15, by kernel_rfl, by kernel_rfl⟩ fun p cap ds rest hok hb hc => ?_
 subst hc
 refine (Trim_spec a p cap ds rest lba n hok hb.2.1).mono (Ent.refl _) ?_
 rintro v Ps ⟨rfl, ds2, hok2, hb2, rfl⟩
 obtain ⟨h1, h2⟩ := write_law hok hb2
 refine ⟨_, ⟨?_, rfl⟩, arr_close (R := []) hok2 (by rw [h2]; exact hb) ?_⟩
 ·
  unfold erT
  rw [cat_cap hok]
 ·
  rw [← h1]
  unfold wrT
  rw [cat_cap hok]
theorem Content_A (a : Nat) (t : List UInt8) : Ctr Tryz.prog 16 [ptr a 0] [arrA 59 60 5 a t] (fun v Ps => v = strV t ∧ Ps = [arrA 59 60 5 a t]) := by
 refine Ctr.arr (R := []) ⟨_, Tryz.func16, by kernel_rfl, by kernel_rfl⟩ fun p cap ds rest hok hb hc => ?_
 subst hc
 refine (Content_spec a p cap ds rest hok ⟨hb.1, hb.2.1⟩ hb.2.2).mono (Ent.refl _) ?_
 rintro v Ps ⟨rfl, rfl⟩
 exact ⟨_, ⟨rfl, rfl⟩, arr_close (R := []) hok hb rfl⟩
def NewA (n : Int) : Value → List Assn → Prop := fun v Ps => if 1 ≤ n ∧ n ≤ 512 then ∃ a, v = .tuple #[ptr a 0, .int .i64 0] ∧ Ps = [arrA 59 60 5 a (List.replicate (n.toNat * 32) 0)] else v = .tuple #[.pointer none, .int .i64 1] ∧ Ps = []
theorem NewA_yes {n : Int} {v : Value} {Ps : List Assn} (h : NewA n v Ps) (hn : 1 ≤ n ∧ n ≤ 512) : ∃ a, v = .tuple #[ptr a 0, .int .i64 0] ∧ Ps = [arrA 59 60 5 a (List.replicate (n.toNat * 32) 0)] := by
 unfold NewA at h; rwa [if_pos hn] at h
theorem NewA_no {n : Int} {v : Value} {Ps : List Assn} (h : NewA n v Ps) (hn : ¬ (1 ≤ n ∧ n ≤ 512)) : v = .tuple #[.pointer none, .int .i64 1] ∧ Ps = [] := by
 unfold NewA at h; rwa [if_neg hn] at h
theorem New_A (n : Int) : Ctr Tryz.prog 5 [.int .i64 n] [] (NewA n) := by
 refine (New_spec n).mono (Ent.refl _) ?_
 intro v Ps h
 by_cases hn : 1 ≤ n ∧ n ≤ 512
 ·
  obtain ⟨a, p, cap, ds, rest, rfl, h1, h2, h3, h4, rfl⟩ := NewQ_yes h hn
  exact ⟨_, by unfold NewA; rw [if_pos hn]; exact ⟨a, rfl, rfl⟩, arr_close (R := []) h2 ⟨by omega, by omega, h4⟩ (cat_z h3)⟩
 ·
  obtain ⟨rfl, rfl⟩ := NewQ_no h hn
  exact ⟨[], by unfold NewA; rw [if_neg hn]; exact ⟨rfl, rfl⟩, Ent.refl _⟩

theorem Copy_A (a : Nat) (t : List UInt8) : Ctr Tryz.prog 6 [ptr a 0] [arrA 59 60 5 a t] (fun v Ps => ∃ a2, v = ptr a2 0 ∧ Ps = [arrA 59 60 5 a2 t, arrA 59 60 5 a t]) := by
 refine Ctr.arr (R := []) ⟨_, Tryz.func6, by kernel_rfl, by kernel_rfl⟩ fun p cap ds rest hok hb hc => ?_
 subst hc
 refine (Copy_spec a p cap ds rest hok ⟨hb.1, hb.2.1⟩).mono (Ent.refl _) ?_
 rintro v Ps ⟨a2, p2, cap2, ds2, rest2, rfl, h1, h2, h3, h4, rfl⟩
 refine ⟨_, ⟨a2, rfl, rfl⟩, ?_⟩
 refine (arr_close (R := arrR 59 60 5 a p cap ds rest) h2 (by rw [h1]; exact ⟨hb.1, hb.2.1, by omega⟩) (cat_of h3).symm).trans (Ent.cons (Ent.refl _) ?_)
 exact arr_close (R := []) hok hb rfl

end Go.Proofs.YtlbebaipmgjdbaaGreat
