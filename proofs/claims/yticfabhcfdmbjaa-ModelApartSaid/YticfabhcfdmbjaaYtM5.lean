/-
  Walks of package model.
-/
import Derived.Test.YticfabhcfdmbjaaYtM4
namespace Go.Proofs.Yticfabhcfdmbjaa
open Go Go.Sl Go.Proofs
set_option maxRecDepth 20000
open Go.Mo
theorem Clone_spec (b off n c : Nat) (cs : List Value) (l : List UInt8) (hl : off + n ≤ cs.length) (hy : (cs.drop off).take n = l.map u8V) (hn : n ≤ 65536) : Ctr Try.prog 35 [slc b off n c] [row b 5 cs] (fun v Ps => v.oneCell' = true ∧ Ps = [vec 5 1 v n (l.map u8V), row b 5 cs]) := by
  refine Ctr.of_body Try.func35 rfl (by kernel_rfl) Try.ntmps35 rfl rfl (fun Fr => ?_)
  refine T.seq fun K1 hK1 => ?_
  refine T.region (l := [0]) rfl ?_
  refine RN.qq rfl rfl rfl rfl (PRun.q (p_assign rfl (by conv => lhs; whnf))) ?_
  refine RN.nil ?_
  refine hK1 _ _ ?_
  refine T.seq fun K2 hK2 => ?_
  refine T.seq fun K3 hK3 => ?_
  refine T.region (l := [0, 1]) rfl ?_
  refine RN.qq rfl rfl rfl rfl (PRun.q (p_move rfl (by conv => lhs; whnf))) ?_
  refine RN.qq rfl rfl rfl rfl (PRun.q (p_sleql_nil rfl rfl rfl Try.underlying49)) ?_
  refine RN.nil ?_
  refine hK3 _ _ ?_
  first | refine T.cond_dec rfl (fun h4 => ?_) (fun h4 => ?_) | refine T.cond rfl (fun h4 => ?_) (fun h4 => ?_)
  ·
    cases h4 --done
  ·
    refine T.skip ?_
    refine hK2 _ _ ?_
    refine T.seq fun K4 hK4 => ?_
    refine T.region (l := [0, 1, 2, 3]) rfl ?_
    refine RN.E rfl rfl rfl rfl (e_buildSlice0 rfl Try.underlying49 ti_5 rfl) ?_
    rintro _ _ ⟨b5, rfl, rfl⟩
    refine RN.ent (Ent.cons (vec_empty (sz := 1)) (Ent.refl _)) ?_
    refine RN.qq rfl rfl rfl rfl (PRun.q (p_move rfl (by conv => lhs; whnf))) ?_
    refine RN.E rfl rfl rfl rfl (e_append rfl Try.underlying49 ni_49 ti_5 rfl rfl (i := 0) rfl (src_row (n := n) (i := 1) rfl (by omega) (by rw [Nat.mul_one]; exact hy)) one_u8 (by omega)) ?_
    rintro v7 _ ⟨hv7, rfl⟩
    refine RN.qq rfl rfl rfl rfl (PRun.q (p_assign rfl (by conv => lhs; whnf))) ?_
    refine RN.nil ?_
    refine hK4 _ _ ?_
    refine T.ret ?_
    rw [Nat.zero_add, List.nil_append]
    refine bodyQ_ret [vec 5 1 v7 n (l.map u8V), row b 5 cs] (RetRun.tmp RetRun.nil) ⟨hv7, rfl⟩ (Ent.refl _)

theorem Equal_spec (A : Assn) (b1 o1 n1 c1 b2 o2 n2 c2 : Nat) (cs1 cs2 : List Value) (l1 l2 : List UInt8) (h1 : Ent A (row b1 5 cs1)) (h2 : Ent A (row b2 5 cs2)) (hl1 : o1 + n1 ≤ cs1.length) (hy1 : (cs1.drop o1).take n1 = l1.map u8V) (hl2 : o2 + n2 ≤ cs2.length) (hy2 : (cs2.drop o2).take n2 = l2.map u8V) : Ctr Try.prog 38 [slc b1 o1 n1 c1, slc b2 o2 n2 c2] [A] (fun v Ps => v = .bool (decide (l1 = l2)) ∧ Ps = [A]) := by
  refine Ctr.of_body Try.func38 rfl (by kernel_rfl) Try.ntmps38 rfl rfl (fun Fr => ?_)
  refine T.seq fun K1 hK1 => ?_
  refine T.region (l := [0]) rfl ?_
  refine RN.qq rfl rfl rfl rfl (PRun.q (p_assign rfl (by conv => lhs; whnf))) ?_
  refine RN.nil ?_
  refine hK1 _ _ ?_
  refine T.seq fun K2 hK2 => ?_
  refine T.region (l := [0, 1, 2, 3, 4, 5]) rfl ?_
  refine RN.qq rfl rfl rfl rfl (PRun.q (p_move rfl (by conv => lhs; whnf))) ?_
  refine RN.qq rfl rfl rfl rfl (QRun.ent (Ent.cons h1 (Ent.refl _)) (q_bytes_str rfl Try.underlying49 Try.underlying5 Try.underlying9 rfl (i := 0) rfl hl1 hy1)) ?_
  refine RN.qq rfl rfl rfl rfl (PRun.q (p_move rfl (by conv => lhs; whnf))) ?_
  refine RN.qq rfl rfl rfl rfl (QRun.ent (Ent.cons h2 (Ent.refl _)) (q_bytes_str rfl Try.underlying49 Try.underlying5 Try.underlying9 rfl (i := 0) rfl hl2 hy2)) ?_
  refine RN.qq rfl rfl rfl rfl (PRun.q (p_seql rfl rfl rfl)) ?_
  refine RN.qq rfl rfl rfl rfl (PRun.q (p_assign rfl (by conv => lhs; whnf))) ?_
  refine RN.nil ?_
  refine hK2 _ _ ?_
  refine T.ret ?_
  refine bodyQ_ret [A] (RetRun.tmp RetRun.nil) ⟨rfl, rfl⟩ (Ent.refl _)

theorem Copy_spec (a p cap : Nat) (ds : List Sec) (rest : List Value) (hok : ∀ x ∈ ds, x.ok) (hl : 1 ≤ ds.length ∧ ds.length ≤ 512) : Ctr Try.prog 17 [ptr a 0] [row a 75 [slc p 0 ds.length cap], row p 49 (ds.map Sec.hdr ++ rest), sep (ds.map (Sec.own 5))] (fun v Ps => ∃ a2 p2 cap2 ds2 rest2, v = ptr a2 0 ∧ ds2.length = ds.length ∧ (∀ x ∈ ds2, x.ok) ∧ bytesOf ds2 = bytesOf ds ∧ ds2.length ≤ cap2 ∧ Ps = arrR 75 49 5 a2 p2 cap2 ds2 rest2 ++ arrR 75 49 5 a p cap ds rest) := by
  refine Ctr.of_body Try.func17 rfl (by kernel_rfl) Try.ntmps17 rfl rfl (fun Fr => ?_)
  refine T.seq fun K1 hK1 => ?_
  refine T.region (l := [0]) rfl ?_
  refine RN.qq rfl rfl rfl rfl (PRun.q (p_assign rfl (by conv => lhs; whnf))) ?_
  refine RN.nil ?_
  refine hK1 _ _ ?_
  refine T.seq fun K2 hK2 => ?_
  refine T.region (l := [0, 1, 2]) rfl ?_
  refine RN.qq rfl rfl rfl rfl (PRun.q (p_build rfl pl_75 ti_75 rfl)) ?_
  refine RN.E rfl rfl rfl rfl (e_box rfl rfl rfl) ?_
  rintro _ _ ⟨b7, rfl, rfl⟩
  refine RN.ent (Ent.cons (Ent.refl _) (Ent.vec_nil' (el := 49) (sz := 1))) ?_
  refine RN.qq rfl rfl rfl rfl (PRun.q (p_assign rfl (by conv => lhs; whnf))) ?_
  refine RN.nil ?_
  refine hK2 _ _ ?_
  refine T.seq fun K3 hK3 => ?_
  refine T.seq fun K4 hK4 => ?_
  refine T.region (l := [0, 1, 2, 3, 4, 5]) rfl ?_
  refine RN.qq rfl rfl rfl rfl (PRun.q (p_move rfl (by conv => lhs; whnf))) ?_
  refine RN.qq rfl rfl rfl rfl (PRun.q (p_nilCheck rfl rfl)) ?_
  refine RN.qq rfl rfl rfl rfl (PRun.q (p_fieldAddr rfl fa_75_0 rfl)) ?_
  refine RN.qq rfl rfl rfl rfl (q_load rfl sc_73 rfl (i := 2) rfl rfl) ?_
  refine RN.qq rfl rfl rfl rfl (PRun.q (p_len rfl Try.underlying73 rfl)) ?_
  refine RN.qq rfl rfl rfl rfl (PRun.q (p_move rfl (by conv => lhs; whnf))) ?_
  refine RN.nil ?_
  refine hK4 _ _ ?_
  refine T.block ?_
  refine T.loop (G := Nat × Value × List Sec) (fun ⟨k, v, d2⟩ => k ≤ ds.length ∧ d2.length = k ∧ (∀ x ∈ d2, x.ok) ∧ bytesOf d2 = (bytesOf ds).take k) (fun ⟨k, v, d2⟩ => [(3, ptr b7 0), (11, slc p 0 ds.length cap), (12, .int .i64 ds.length), (13, .int .i64 k)]) (fun ⟨k, v, d2⟩ => [row b7 75 [v], vec 49 1 v k (d2.map Sec.hdr), sep (d2.map (Sec.own 5)), row a 75 [slc p 0 ds.length cap], row p 49 (ds.map Sec.hdr ++ rest), sep (ds.map (Sec.own 5)), Fr]) (fun ⟨k, v, d2⟩ => ds.length - k) (0, .slice none 0 0, []) ⟨by omega, rfl, by simp, rfl⟩ (LiveIs.cons rfl (LiveIs.cons rfl (LiveIs.cons rfl (LiveIs.cons rfl LiveIs.nil)))) ?_ ?_
  · exact Ent.cons (Ent.refl _) (Ent.cons (Ent.refl _) (Ent.unflat [] _))
  rintro ⟨k, v, d2⟩ e5 ⟨hkk, hd, hok2, hb⟩
  dsimp only
  refine T.seq fun K6 hK6 => ?_
  refine T.region (l := [0]) rfl ?_
  refine RN.qq rfl rfl rfl rfl (PRun.q (p_lss rfl rfl rfl)) ?_
  refine RN.nil ?_
  refine hK6 _ _ ?_
  refine T.seq fun K7 hK7 => ?_
  first | refine T.cond_dec rfl (fun h14 => ?_) (fun h14 => ?_) | refine T.cond rfl (fun h14 => ?_) (fun h14 => ?_)
  ·
    have hk : k < ds.length := by omega
    refine T.skip ?_
    refine hK7 _ _ ?_
    refine T.seq fun K8 hK8 => ?_
    refine T.block ?_
    refine T.seq fun K9 hK9 => ?_
    refine T.region (l := [0, 1, 2]) rfl ?_
    refine RN.qq rfl rfl rfl rfl (PRun.q (by first | exact (p_indexAddr1N rfl Try.underlying73 ts_49 rfl rfl (by omega)) | exact (p_indexAddr1 rfl Try.underlying73 ts_49 rfl rfl (by omega)))) ?_
    refine RN.qq rfl rfl rfl rfl (q_load rfl sc_49 rfl (i := 4) rfl (hdr_get hk)) ?_
    refine RN.qq rfl rfl rfl rfl (PRun.q (p_assign rfl (by conv => lhs; whnf))) ?_
    refine RN.nil ?_
    refine hK9 _ _ ?_
    refine T.regionD (z := 11) (Bs := [row b7 75 [v]]) (l := [(0, .pure), (1, .pure), (2, .pure), (3, .pure), (4, .load), (5, .pure), (6, .eff), (7, .eff), (8, .eff), (9, .pure), (10, .pure), (11, .eff)]) mixed (by kernel_rfl) (by first | exact Ent.refl _ | exact Ent.pull_drop (is := [0]) rfl | exact Ent.pull_drop (is := [1]) rfl | exact Ent.pull_drop (is := [2]) rfl | exact Ent.pull_drop (is := [3]) rfl | exact Ent.pull_drop (is := [4]) rfl | exact Ent.pull_drop (is := [5]) rfl | exact Ent.pull_drop (is := [6]) rfl | exact Ent.pull_drop (is := [7]) rfl) ?_
    refine RD.pp rfl rfl rfl rfl (p_move rfl (by conv => lhs; whnf)) ?_
    refine RD.pp rfl rfl rfl rfl (p_move rfl (by conv => lhs; whnf)) ?_
    refine RD.pp rfl rfl rfl rfl (p_nilCheck rfl rfl) ?_
    refine RD.pp rfl rfl rfl rfl (p_fieldAddr rfl fa_75_0 rfl) ?_
    refine RD.qq rfl rfl rfl rfl (by first | exact (q_load rfl sc_73 rfl (i := 0) rfl rfl) | exact (q_load rfl sc_73 rfl (i := 1) rfl rfl) | exact (q_load rfl sc_73 rfl (i := 2) rfl rfl) | exact (q_load rfl sc_73 rfl (i := 3) rfl rfl) | exact (q_load rfl sc_73 rfl (i := 4) rfl rfl)) (by first | exact Ent.refl _ | exact Ent.pull_drop (is := [0]) rfl | exact Ent.pull_drop (is := [1]) rfl | exact Ent.pull_drop (is := [2]) rfl | exact Ent.pull_drop (is := [3]) rfl | exact Ent.pull_drop (is := [4]) rfl | exact Ent.pull_drop (is := [5]) rfl | exact Ent.pull_drop (is := [6]) rfl | exact Ent.pull_drop (is := [7]) rfl) ?_
    refine RD.pp rfl rfl rfl rfl (p_move rfl (by conv => lhs; whnf)) ?_
    refine RD.ent (Ent.inside (i := 5) rfl (own_nth hk)) ?_
    refine RD.C [0] rfl rfl rfl rfl (c_call rfl rfl) (Clone_spec ds[k].b 0 32 ds[k].cap (ds[k].s.map u8V ++ ds[k].rest) ds[k].s (by simp [show ds[k].s.length = 32 from ok_get hok hk]) (by rw [List.drop_zero, List.take_left' (by simp [show ds[k].s.length = 32 from ok_get hok hk])]) (by omega)) rfl (by rintro _ _ ⟨_, rfl⟩; exact .inl (by first | exact Ent.refl _ | exact Ent.pull_drop (is := [0]) rfl | exact Ent.pull_drop (is := [1]) rfl | exact Ent.pull_drop (is := [2]) rfl | exact Ent.pull_drop (is := [3]) rfl | exact Ent.pull_drop (is := [4]) rfl | exact Ent.pull_drop (is := [5]) rfl | exact Ent.pull_drop (is := [6]) rfl | exact Ent.pull_drop (is := [7]) rfl)) ?_
    rintro v23 _ ⟨hv23, rfl⟩
    refine RD.ent (Ent.cons (Ent.refl _) (own_back hk)) ?_
    refine RD.openVec 0 rfl (by omega) ?_
    rintro b23 cap23 rest23 rfl hq1 hq2 hq3
    refine RD.E rfl rfl rfl rfl (e_buildSlice1 rfl Try.underlying73 ti_49 rfl (by conv => lhs; whnf) rfl) (by rintro _ _ ⟨_, rfl, rfl⟩; exact .inl (by first | exact Ent.refl _ | exact Ent.pull_drop (is := [0]) rfl | exact Ent.pull_drop (is := [1]) rfl | exact Ent.pull_drop (is := [2]) rfl | exact Ent.pull_drop (is := [3]) rfl | exact Ent.pull_drop (is := [4]) rfl | exact Ent.pull_drop (is := [5]) rfl | exact Ent.pull_drop (is := [6]) rfl | exact Ent.pull_drop (is := [7]) rfl)) ?_
    rintro _ _ ⟨b24, rfl, rfl⟩
    refine RD.E rfl rfl rfl rfl (e_append rfl Try.underlying73 ni_73 ti_49 rfl rfl (i := 4) rfl (src_full (i := 0) rfl rfl) (by first | exact one_one rfl | simp [Value.oneCell']) (by omega)) (by rintro _ _ ⟨_, rfl⟩; exact .inl (by first | exact Ent.refl _ | exact Ent.pull_drop (is := [0]) rfl | exact Ent.pull_drop (is := [1]) rfl | exact Ent.pull_drop (is := [2]) rfl | exact Ent.pull_drop (is := [3]) rfl | exact Ent.pull_drop (is := [4]) rfl | exact Ent.pull_drop (is := [5]) rfl | exact Ent.pull_drop (is := [6]) rfl | exact Ent.pull_drop (is := [7]) rfl)) ?_
    rintro v25 _ ⟨hv25, rfl⟩
    simp only [setN]
    refine RD.pp rfl rfl rfl rfl (p_nilCheck rfl rfl) ?_
    refine RD.pp rfl rfl rfl rfl (p_fieldAddr rfl fa_75_0 rfl) ?_
    refine RD.EN rfl rfl rfl (by first | exact (e_store rfl ts_73 rfl (by conv => lhs; whnf) (by first | rfl | assumption) (i := 0) rfl (by simp)) | exact (e_store rfl ts_73 rfl (by conv => lhs; whnf) (by first | rfl | assumption) (i := 1) rfl (by simp)) | exact (e_store rfl ts_73 rfl (by conv => lhs; whnf) (by first | rfl | assumption) (i := 2) rfl (by simp)) | exact (e_store rfl ts_73 rfl (by conv => lhs; whnf) (by first | rfl | assumption) (i := 3) rfl (by simp)) | exact (e_store rfl ts_73 rfl (by conv => lhs; whnf) (by first | rfl | assumption) (i := 4) rfl (by simp))) (fun _ _ _ => .inr rfl) ?_
    rintro _ _ ⟨rfl, rfl⟩
    refine RD.nil ?_
    refine hK8 _ _ ?_
    refine T.region (l := [0, 1]) rfl ?_
    refine RN.qq rfl rfl rfl rfl (PRun.q (by first | exact (p_addN (b := 1) rfl rfl rfl (by omega)) | exact (p_add rfl rfl rfl (by omega)))) ?_
    refine RN.qq rfl rfl rfl rfl (PRun.q (p_move rfl (by conv => lhs; whnf))) ?_
    refine RN.nil ?_
    refine ⟨(k + 1, v25, d2 ++ [⟨b23, cap23, ds[k].s, rest23⟩]), ?_, (by simp; omega), (LiveIs.cons rfl (LiveIs.cons rfl (LiveIs.cons rfl (LiveIs.cons rfl LiveIs.nil)))), ?_⟩
    · refine ⟨by omega, by simp [hd], ?_, ?_⟩
      · intro x hx
        rcases List.mem_append.1 hx with h | h
        · exact hok2 x h
        · rw [List.mem_singleton.1 h]; exact ok_get hok hk
      · show bytesOf (d2 ++ [(⟨b23, cap23, ds[k].s, rest23⟩ : Sec)]) = (bytesOf ds).take (k + 1)
        rw [bytesOf, List.map_append, List.take_succ_eq_append_getElem (by simpa using hk), ← hb]
        simp
    · refine (Ent.pull_drop (is := [1, 4, 2, 2, 2, 2, 1, 1]) rfl).trans ?_
      refine Ent.trans (own_push (TB := 5) (ds := d2) (d := (⟨b23, cap23, ds[k].s, rest23⟩ : Sec))) ?_
      refine (Ent.pull_drop (is := [1, 1, 0, 0, 0, 0, 0]) rfl).trans (Ent.of_eq ?_)
      simp only [List.map_append]
      rfl
  ·
    have hkl : d2.length = ds.length := by omega
    refine T.exit ?_
    refine Post.seq_x ?_
    refine Post.seq_x ?_
    refine Post.block_hit ?_
    refine hK3 _ _ ?_
    refine T.seq fun K10 hK10 => ?_
    subst hd
    refine T.openVec 1 rfl (by omega) ?_
    rintro p2 cap2 rest2 rfl hc1 hc2 hc3
    refine T.region (l := [0, 1]) rfl ?_
    refine RN.qq rfl rfl rfl rfl (PRun.q (p_move rfl (by conv => lhs; whnf))) ?_
    refine RN.qq rfl rfl rfl rfl (PRun.q (p_assign rfl (by conv => lhs; whnf))) ?_
    refine RN.nil ?_
    refine hK10 _ _ ?_
    refine T.ret ?_
    refine bodyQ_ret (arrR 75 49 5 b7 p2 cap2 d2 rest2 ++ arrR 75 49 5 a p cap ds rest) (RetRun.tmp RetRun.nil) ⟨b7, p2, cap2, d2, rest2, rfl, hkl, hok2, by rw [hb, hkl, List.take_of_length_le (by simp)], hc1, rfl⟩ (Ent.refl _)

end Go.Proofs.Yticfabhcfdmbjaa
