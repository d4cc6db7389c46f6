/-
  Walks of package model.
-/
import Derived.Test.YticfabhcfdmbjaaYtM1
namespace Go.Proofs.Yticfabhcfdmbjaa
open Go Go.Sl Go.Proofs
set_option maxRecDepth 20000
open Go.Mo
theorem Join_spec (p off c : Nat) (ds : List Sec) (cells : List Value) (hok : ∀ x ∈ ds, x.ok) (h1 : 1 ≤ ds.length ∧ ds.length ≤ 512) (hlc : ds.length ≤ c) (hc : ∀ i (h : i < ds.length), cells[off + i]? = some ds[i].hdr) : Ctr Try.prog 34 [slc p off ds.length c, .slice none 0 0] [row p 49 cells, sep (ds.map (Sec.own 5))] (fun v Ps => ∃ b cap rest, v = slc b 0 (32 * ds.length) cap ∧ Ps = [row b 5 ((cat ds).map u8V ++ rest), row p 49 cells, sep (ds.map (Sec.own 5))]) := by
  refine Ctr.of_body Try.func34 rfl (by kernel_rfl) Try.ntmps34 rfl rfl (fun Fr => ?_)
  refine T.seq fun K1 hK1 => ?_
  refine T.region (l := [0]) rfl ?_
  refine RN.qq rfl rfl rfl rfl (PRun.q (p_assign rfl (by conv => lhs; whnf))) ?_
  refine RN.nil ?_
  refine hK1 _ _ ?_
  refine T.seq fun K2 hK2 => ?_
  refine T.seq fun K3 hK3 => ?_
  refine T.region (l := [0, 1, 2]) rfl ?_
  refine RN.qq rfl rfl rfl rfl (PRun.q (p_move rfl (by conv => lhs; whnf))) ?_
  refine RN.qq rfl rfl rfl rfl (PRun.q (p_len rfl Try.underlying73 rfl)) ?_
  refine RN.qq rfl rfl rfl rfl (PRun.q (p_eql rfl rfl rfl)) ?_
  refine RN.nil ?_
  refine hK3 _ _ ?_
  first | refine T.cond_dec rfl (fun h14 => ?_) (fun h14 => ?_) | refine T.cond rfl (fun h14 => ?_) (fun h14 => ?_)
  ·
    omega --done
  ·
    refine T.skip ?_
    refine hK2 _ _ ?_
    refine T.seq fun K4 hK4 => ?_
    refine T.seq fun K5 hK5 => ?_
    refine T.region (l := [0, 1, 2]) rfl ?_
    refine RN.qq rfl rfl rfl rfl (PRun.q (p_move rfl (by conv => lhs; whnf))) ?_
    refine RN.qq rfl rfl rfl rfl (PRun.q (p_len rfl Try.underlying73 rfl)) ?_
    refine RN.qq rfl rfl rfl rfl (PRun.q (p_eql rfl rfl rfl)) ?_
    refine RN.nil ?_
    refine hK5 _ _ ?_
    first | refine T.cond_dec rfl (fun h18 => ?_) (fun h18 => ?_) | refine T.cond rfl (fun h18 => ?_) (fun h18 => ?_)
    ·
      have h0 : 0 < ds.length := by omega
      have hd1 : ds.length = 1 := by omega
      have hc0 := hc 0 h0
      refine T.seq fun K6 hK6 => ?_
      refine T.region (l := [0, 1, 2, 3, 4]) rfl ?_
      refine RN.qq rfl rfl rfl rfl (PRun.q (p_move rfl (by conv => lhs; whnf))) ?_
      refine RN.qq rfl rfl rfl rfl (PRun.q (by first | exact (p_indexAddr1N (i := 0) rfl Try.underlying73 ts_49 rfl rfl (by omega)) | exact (p_indexAddr1 rfl Try.underlying73 ts_49 rfl rfl (by omega)))) ?_
      refine RN.qq rfl rfl rfl rfl (q_load rfl sc_49 rfl (i := 0) rfl (by simpa using hc0)) ?_
      refine RN.ent (((Ent.pull (is := [1]) rfl).trans (Ent.bor (own_nth h0))).trans (Ent.vec_nil' (el := 5) (sz := 1))) ?_
      refine RN.E rfl rfl rfl rfl (e_append rfl Try.underlying49 ni_49 ti_5 rfl rfl (i := 0) rfl (Sec.src (i := 1) rfl (ok_get hok h0)) one_u8 (by omega)) ?_
      rintro v22 _ ⟨hv22, rfl⟩
      refine RN.openVec 0 rfl (by omega) ?_
      rintro b22 cap22 rest22 rfl hcap1 hcap2 hcl
      refine RN.qq rfl rfl rfl rfl (PRun.q (p_assign rfl (by conv => lhs; whnf))) ?_
      refine RN.nil ?_
      refine hK6 _ _ ?_
      refine T.ret ?_
      refine Post.seq_r ?_
      have hcat := cat_length hok
      have hz : cat ds = ds[0].s := by
        have := cat_take (ds := ds) (k := 0) (by omega)
        rw [List.take_of_length_le (by omega)] at this
        rw [this]; simp [cat]
      rw [show 0 + 32 = 32 * ds.length from by omega]
      refine bodyQ_ret [row b22 5 ((cat ds).map u8V ++ rest22), row p 49 cells, sep (ds.map (Sec.own 5))] (RetRun.tmp RetRun.nil) ⟨b22, cap22, rest22, rfl, rfl⟩ ?_
      rw [hz]
      refine Ent.trans ?_ (Ent.pull (is := [0, 1, 0]) (L := [row b22 5 (ds[0].s.map u8V ++ rest22), sep (ds.map (Sec.own 5)), row p 49 cells, Fr]) rfl)
      refine Ent.cons (Ent.of_eq (by simp)) ?_
      exact own_back (by omega)
    ·
      refine T.skip ?_
      refine hK4 _ _ ?_
      refine T.seq fun K7 hK7 => ?_
      refine T.region (l := [0]) rfl ?_
      refine RN.qq rfl rfl rfl rfl (PRun.q (p_assign rfl (by conv => lhs; whnf))) ?_
      refine RN.nil ?_
      refine hK7 _ _ ?_
      refine T.seq fun K8 hK8 => ?_
      refine T.seq fun K9 hK9 => ?_
      refine T.region (l := [0, 1, 2]) rfl ?_
      refine RN.qq rfl rfl rfl rfl (PRun.q (p_move rfl (by conv => lhs; whnf))) ?_
      refine RN.qq rfl rfl rfl rfl (PRun.q (p_len rfl Try.underlying49 rfl)) ?_
      refine RN.qq rfl rfl rfl rfl (PRun.q (p_gtr rfl rfl rfl)) ?_
      refine RN.nil ?_
      refine hK9 _ _ ?_
      first | refine T.cond_dec rfl (fun h25 => ?_) (fun h25 => ?_) | refine T.cond rfl (fun h25 => ?_) (fun h25 => ?_)
      ·
        omega --done
      ·
        refine T.skip ?_
        refine hK8 _ _ ?_
        refine T.seq fun K10 hK10 => ?_
        refine T.seq fun K11 hK11 => ?_
        refine T.region (l := [0, 1, 2]) rfl ?_
        refine RN.qq rfl rfl rfl rfl (PRun.q (p_move rfl (by conv => lhs; whnf))) ?_
        refine RN.qq rfl rfl rfl rfl (PRun.q (p_len rfl Try.underlying73 rfl)) ?_
        refine RN.qq rfl rfl rfl rfl (PRun.q (p_move rfl (by conv => lhs; whnf))) ?_
        refine RN.nil ?_
        refine hK11 _ _ ?_
        refine T.block ?_
        refine T.loop (G := Nat) (fun k => k ≤ ds.length) (fun k => [(0, slc p off ds.length c), (1, .slice none 0 0), (5, .int .i64 (32 * k : Nat)), (42, slc p off ds.length c), (43, .int .i64 ds.length), (44, .int .i64 k)]) (fun k => [row p 49 cells, sep (ds.map (Sec.own 5)), Fr]) (fun k => ds.length - k) 0 (by omega) (LiveIs.cons rfl (LiveIs.cons rfl (LiveIs.cons rfl (LiveIs.cons rfl (LiveIs.cons rfl (LiveIs.cons rfl LiveIs.nil)))))) (Ent.refl _) ?_
        rintro k e12 hk
        refine T.seq fun K13 hK13 => ?_
        refine T.region (l := [0]) rfl ?_
        refine RN.qq rfl rfl rfl rfl (PRun.q (p_lss rfl rfl rfl)) ?_
        refine RN.nil ?_
        refine hK13 _ _ ?_
        refine T.seq fun K14 hK14 => ?_
        first | refine T.cond_dec rfl (fun h45 => ?_) (fun h45 => ?_) | refine T.cond rfl (fun h45 => ?_) (fun h45 => ?_)
        ·
          refine T.skip ?_
          refine hK14 _ _ ?_
          refine T.seq fun K15 hK15 => ?_
          refine T.block ?_
          refine T.seq fun K16 hK16 => ?_
          refine T.region (l := [0, 1, 2]) rfl ?_
          refine RN.qq rfl rfl rfl rfl (PRun.q (by first | exact (p_indexAddr1N rfl Try.underlying73 ts_49 rfl rfl (by omega)) | exact (p_indexAddr1 rfl Try.underlying73 ts_49 rfl rfl (by omega)))) ?_
          refine RN.qq rfl rfl rfl rfl (q_load rfl sc_49 rfl (i := 0) rfl (hc _ (by omega))) ?_
          refine RN.qq rfl rfl rfl rfl (PRun.q (p_assign rfl (by conv => lhs; whnf))) ?_
          refine RN.nil ?_
          refine hK16 _ _ ?_
          refine T.seq fun K17 hK17 => ?_
          refine T.seq fun K18 hK18 => ?_
          refine T.region (l := [0, 1, 2, 3, 4]) rfl ?_
          refine RN.qq rfl rfl rfl rfl (PRun.q (p_move rfl (by conv => lhs; whnf))) ?_
          refine RN.qq rfl rfl rfl rfl (PRun.q (p_len rfl Try.underlying49 rfl)) ?_
          refine RN.qq rfl rfl rfl rfl (PRun.q (p_move rfl (by conv => lhs; whnf))) ?_
          refine RN.qq rfl rfl rfl rfl (PRun.q (by first | exact (p_subN (a := 9223372036854775807) rfl rfl rfl (by omega)) | exact (p_sub rfl rfl rfl (by omega)))) ?_
          refine RN.qq rfl rfl rfl rfl (PRun.q (p_gtr rfl rfl rfl)) ?_
          refine RN.nil ?_
          refine hK18 _ _ ?_
          first | refine T.cond_dec rfl (fun h52 => ?_) (fun h52 => ?_) | refine T.cond rfl (fun h52 => ?_) (fun h52 => ?_)
          ·
            omega --done
          ·
            refine T.skip ?_
            refine hK17 _ _ ?_
            refine T.region (l := [0, 1, 2, 3, 4]) rfl ?_
            refine RN.qq rfl rfl rfl rfl (PRun.q (p_move rfl (by conv => lhs; whnf))) ?_
            refine RN.qq rfl rfl rfl rfl (PRun.q (p_move rfl (by conv => lhs; whnf))) ?_
            refine RN.qq rfl rfl rfl rfl (PRun.q (p_len rfl Try.underlying49 rfl)) ?_
            refine RN.qq rfl rfl rfl rfl (PRun.q (by first | exact (p_addN rfl rfl rfl (by omega)) | exact (p_add rfl rfl rfl (by omega)))) ?_
            refine RN.qq rfl rfl rfl rfl (PRun.q (p_assign rfl (by conv => lhs; whnf))) ?_
            refine RN.nil ?_
            refine hK15 _ _ ?_
            refine T.region (l := [0, 1]) rfl ?_
            refine RN.qq rfl rfl rfl rfl (PRun.q (by first | exact (p_addN (b := 1) rfl rfl rfl (by omega)) | exact (p_add rfl rfl rfl (by omega)))) ?_
            refine RN.qq rfl rfl rfl rfl (PRun.q (p_move rfl (by conv => lhs; whnf))) ?_
            refine RN.nil ?_
            refine ⟨k + 1, (by omega), (by omega), (LiveIs.cons rfl (LiveIs.cons rfl (LiveIs.cons (congrArg (Value.int .i64) (by simp; omega)) (LiveIs.cons rfl (LiveIs.cons rfl (LiveIs.cons rfl LiveIs.nil)))))), Ent.refl _⟩
        ·
          obtain rfl : k = ds.length := by omega
          refine T.exit ?_
          refine Post.seq_x ?_
          refine Post.seq_x ?_
          refine Post.block_hit ?_
          refine hK10 _ _ ?_
          refine T.seq fun K19 hK19 => ?_
          refine T.region (l := [0, 1, 2, 3, 4, 5]) rfl ?_
          refine RN.qq rfl rfl rfl rfl (PRun.q (p_move rfl (by conv => lhs; whnf))) ?_
          refine RN.E rfl rfl rfl rfl (e_makeNoZero (n := 32 * ds.length) (ps := #[3]) (t := 49) rfl Try.func47 (by kernel_rfl) rfl (by kernel_rfl) (by kernel_rfl) rfl Try.underlying49 (by omega)) ?_
          rintro _ _ ⟨b60, cs60, hn60, hm60, rfl, rfl⟩
          refine RN.qq rfl rfl rfl rfl (PRun.q (p_move rfl (by conv => lhs; whnf))) ?_
          refine RN.qq rfl rfl rfl rfl (PRun.q (p_move rfl (by conv => lhs; whnf))) ?_
          refine RN.qq rfl rfl rfl rfl (PRun.q (p_slice3 rfl Try.underlying49 ts_5 rfl rfl rfl (by omega))) ?_
          refine RN.qq rfl rfl rfl rfl (PRun.q (p_assign rfl (by conv => lhs; whnf))) ?_
          refine RN.nil ?_
          refine hK19 _ _ ?_
          refine T.seq fun K20 hK20 => ?_
          refine T.region (l := [0, 1, 2, 3, 4, 5]) rfl ?_
          refine RN.qq rfl rfl rfl rfl (PRun.q (p_move rfl (by conv => lhs; whnf))) ?_
          refine RN.qq rfl rfl rfl rfl (PRun.q (p_move rfl (by conv => lhs; whnf))) ?_
          refine RN.qq rfl rfl rfl rfl (PRun.q (by first | exact (p_indexAddr1N (i := 0) rfl Try.underlying73 ts_49 rfl rfl (by omega)) | exact (p_indexAddr1 rfl Try.underlying73 ts_49 rfl rfl (by omega)))) ?_
          refine RN.qq rfl rfl rfl rfl (q_load rfl sc_49 rfl (i := 1) rfl (hc 0 (by omega))) ?_
          refine RN.E rfl rfl rfl rfl (e_copy rfl Try.underlying49 ts_5 rfl (i := 0) rfl (by simp; omega) (Sec.srcIn (i := 2) (j := 0) rfl hok (by omega)) one_u8) ?_
          rintro _ _ ⟨rfl, rfl⟩
          refine RN.qq rfl rfl rfl rfl (PRun.q (p_assign rfl (by conv => lhs; whnf))) ?_
          refine RN.nil ?_
          refine hK20 _ _ ?_
          refine T.seq fun K21 hK21 => ?_
          refine T.seq fun K22 hK22 => ?_
          refine T.region (l := [0, 1, 2, 3]) rfl ?_
          refine RN.qq rfl rfl rfl rfl (PRun.q (p_move rfl (by conv => lhs; whnf))) ?_
          refine RN.qq rfl rfl rfl rfl (PRun.q (by first | exact (p_slice_lo (l := 1) rfl Try.underlying73 ts_49 rfl rfl (by omega)) | exact (p_sliceN (l := 1) rfl Try.underlying73 ts_49 rfl rfl rfl (by omega)) | exact (p_slice rfl Try.underlying73 ts_49 rfl rfl rfl (by omega)))) ?_
          refine RN.qq rfl rfl rfl rfl (PRun.q (p_len rfl Try.underlying73 rfl)) ?_
          refine RN.qq rfl rfl rfl rfl (PRun.q (p_move rfl (by conv => lhs; whnf))) ?_
          refine RN.nil ?_
          refine hK22 _ _ ?_
          refine T.block ?_
          refine T.loop (G := Nat × List Value) (fun ⟨k, cs⟩ => k + 1 ≤ ds.length ∧ cs.length = cs60.length ∧ cs.take (32 * (k + 1)) = (cat (ds.take (k + 1))).map u8V) (fun ⟨k, cs⟩ => [(1, .slice none 0 0), (8, slc b60 0 (32 * ds.length) (32 * ds.length)), (9, .int .i64 (32 * (k + 1) : Nat)), (70, slc p (off + 1) (ds.length - 1) (c - 1)), (71, .int .i64 (ds.length - 1 : Nat)), (72, .int .i64 k)]) (fun ⟨k, cs⟩ => [row b60 5 cs, row p 49 cells, sep (ds.map (Sec.own 5)), Fr]) (fun ⟨k, cs⟩ => ds.length - k) (0, lay cs60 0 (ds[0].s.map u8V)) ?_ (LiveIs.cons rfl (LiveIs.cons rfl (LiveIs.cons ?_ (LiveIs.cons rfl (LiveIs.cons rfl (LiveIs.cons rfl LiveIs.nil)))))) ?_ ?_
          · have hs0 : ds[0].s.length = 32 := ok_get hok (by omega)
            refine ⟨by omega, lay_length _ _ _, ?_⟩
            have := lay_take (cs := cs60) (A := []) (B := ds[0].s.map u8V) (a := 0) rfl rfl (by simp [hs0]; omega)
            simp only [List.length_map, hs0, List.nil_append, Nat.zero_add] at this
            have hz : (cat (ds.take (0 + 1))) = ds[0].s := by rw [cat_take (by omega)]; simp [cat]
            rw [hz]
            exact this
          · exact congrArg (Value.int .i64) (by simp; omega)
          · have hs0 : ds[0].s.length = 32 := ok_get hok (by omega)
            refine Ent.of_eq ?_
            simp only [setN]
            rw [List.take_of_length_le (by simp [hs0]; omega)]
          rintro ⟨k, cs⟩ e23 ⟨hk, hl, hcs⟩
          dsimp only
          refine T.seq fun K24 hK24 => ?_
          refine T.region (l := [0]) rfl ?_
          refine RN.qq rfl rfl rfl rfl (PRun.q (p_lss rfl rfl rfl)) ?_
          refine RN.nil ?_
          refine hK24 _ _ ?_
          refine T.seq fun K25 hK25 => ?_
          first | refine T.cond_dec rfl (fun h73 => ?_) (fun h73 => ?_) | refine T.cond rfl (fun h73 => ?_) (fun h73 => ?_)
          ·
            refine T.skip ?_
            refine hK25 _ _ ?_
            refine T.seq fun K26 hK26 => ?_
            refine T.block ?_
            refine T.seq fun K27 hK27 => ?_
            refine T.region (l := [0, 1, 2]) rfl ?_
            refine RN.qq rfl rfl rfl rfl (PRun.q (by first | exact (p_indexAddr1N rfl Try.underlying73 ts_49 rfl rfl (by omega)) | exact (p_indexAddr1 rfl Try.underlying73 ts_49 rfl rfl (by omega)))) ?_
            refine RN.qq rfl rfl rfl rfl (q_load rfl sc_49 rfl (i := 1) rfl (by rw [Nat.add_assoc, Nat.add_comm 1]; exact hc (k + 1) (by omega))) ?_
            refine RN.qq rfl rfl rfl rfl (PRun.q (p_assign rfl (by conv => lhs; whnf))) ?_
            refine RN.nil ?_
            refine hK27 _ _ ?_
            refine T.seq fun K28 hK28 => ?_
            refine T.region (l := [0, 1, 2, 3, 4, 5, 6, 7]) rfl ?_
            refine RN.qq rfl rfl rfl rfl (PRun.q (p_move rfl (by conv => lhs; whnf))) ?_
            refine RN.qq rfl rfl rfl rfl (PRun.q (p_move rfl (by conv => lhs; whnf))) ?_
            refine RN.qq rfl rfl rfl rfl (PRun.q (p_move rfl (by conv => lhs; whnf))) ?_
            refine RN.qq rfl rfl rfl rfl (PRun.q (by first | exact (p_slice_lo rfl Try.underlying49 ts_5 rfl rfl (by omega)) | exact (p_sliceN rfl Try.underlying49 ts_5 rfl rfl rfl (by omega)) | exact (p_slice rfl Try.underlying49 ts_5 rfl rfl rfl (by omega)))) ?_
            refine RN.qq rfl rfl rfl rfl (PRun.q (p_move rfl (by conv => lhs; whnf))) ?_
            refine RN.E rfl rfl rfl rfl (e_copy rfl Try.underlying49 ts_5 rfl (i := 0) rfl (by simp; omega) src_nil (by simp)) ?_
            rintro _ _ ⟨rfl, rfl⟩
            simp only [setN, List.take_nil, lay]
            refine RN.qq rfl rfl rfl rfl (PRun.q (by first | exact (p_addN rfl rfl rfl (by omega)) | exact (p_add rfl rfl rfl (by omega)))) ?_
            refine RN.qq rfl rfl rfl rfl (PRun.q (p_assign rfl (by conv => lhs; whnf))) ?_
            refine RN.nil ?_
            refine hK28 _ _ ?_
            refine T.region (l := [0, 1, 2, 3, 4, 5, 6, 7]) rfl ?_
            refine RN.qq rfl rfl rfl rfl (PRun.q (p_move rfl (by conv => lhs; whnf))) ?_
            refine RN.qq rfl rfl rfl rfl (PRun.q (p_move rfl (by conv => lhs; whnf))) ?_
            refine RN.qq rfl rfl rfl rfl (PRun.q (p_move rfl (by conv => lhs; whnf))) ?_
            refine RN.qq rfl rfl rfl rfl (PRun.q (by first | exact (p_slice_lo rfl Try.underlying49 ts_5 rfl rfl (by omega)) | exact (p_sliceN rfl Try.underlying49 ts_5 rfl rfl rfl (by omega)) | exact (p_slice rfl Try.underlying49 ts_5 rfl rfl rfl (by omega)))) ?_
            refine RN.qq rfl rfl rfl rfl (PRun.q (p_move rfl (by conv => lhs; whnf))) ?_
            refine RN.E rfl rfl rfl rfl (e_copy rfl Try.underlying49 ts_5 rfl (i := 0) rfl (by simp; omega) (Sec.srcIn (i := 2) (j := k + 1) rfl hok (by omega)) one_u8) ?_
            rintro _ _ ⟨rfl, rfl⟩
            refine RN.qq rfl rfl rfl rfl (PRun.q (by first | exact (p_addN rfl rfl rfl (by omega)) | exact (p_add rfl rfl rfl (by omega)))) ?_
            refine RN.qq rfl rfl rfl rfl (PRun.q (p_assign rfl (by conv => lhs; whnf))) ?_
            refine RN.nil ?_
            refine hK26 _ _ ?_
            refine T.region (l := [0, 1]) rfl ?_
            refine RN.qq rfl rfl rfl rfl (PRun.q (by first | exact (p_addN (b := 1) rfl rfl rfl (by omega)) | exact (p_add rfl rfl rfl (by omega)))) ?_
            refine RN.qq rfl rfl rfl rfl (PRun.q (p_move rfl (by conv => lhs; whnf))) ?_
            refine RN.nil ?_
            refine ⟨(k + 1, lay cs (32 * (k + 1)) (ds[k + 1].s.map u8V)), ?_, (by simp; omega), (LiveIs.cons rfl (LiveIs.cons rfl (LiveIs.cons ?_ (LiveIs.cons rfl (LiveIs.cons rfl (LiveIs.cons rfl LiveIs.nil)))))), ?_⟩
            · have hs0 : ds[k + 1].s.length = 32 := ok_get hok (by omega)
              refine ⟨by simp; omega, by rw [lay_length]; exact hl, ?_⟩
              have := lay_take (B := ds[k + 1].s.map u8V) hcs (by rw [List.length_map, cat_length (fun x hx => hok x (List.mem_of_mem_take hx)), List.length_take]; omega) (by simp [hs0]; omega)
              simp only [List.length_map, hs0] at this
              rw [cat_take (by omega), List.map_append, ← this]
              rfl
            · have hs0 : ds[k + 1].s.length = 32 := ok_get hok (by omega)
              exact congrArg (Value.int .i64) (by simp; omega)
            · have hs0 : ds[k + 1].s.length = 32 := ok_get hok (by omega)
              refine Ent.of_eq ?_
              simp only [setN]
              rw [List.take_of_length_le (l := ds[k + 1].s.map u8V) (by simp [hs0]; omega)]
              simp
          ·
            have hkk : k + 1 = ds.length := by omega
            refine T.exit ?_
            refine Post.seq_x ?_
            refine Post.seq_x ?_
            refine Post.block_hit ?_
            refine hK21 _ _ ?_
            refine T.seq fun K29 hK29 => ?_
            refine T.region (l := [0, 1]) rfl ?_
            refine RN.qq rfl rfl rfl rfl (PRun.q (p_move rfl (by conv => lhs; whnf))) ?_
            refine RN.qq rfl rfl rfl rfl (PRun.q (p_assign rfl (by conv => lhs; whnf))) ?_
            refine RN.nil ?_
            refine hK29 _ _ ?_
            refine T.ret ?_
            have hcat := cat_length hok
            rw [hkk, List.take_of_length_le (Nat.le_refl _)] at hcs
            refine bodyQ_ret [row b60 5 ((cat ds).map u8V ++ cs.drop (32 * ds.length)), row p 49 cells, sep (ds.map (Sec.own 5))] (RetRun.tmp RetRun.nil) ⟨b60, _, _, rfl, rfl⟩ ?_
            rw [← hcs, List.take_append_drop]
            exact Ent.refl _

end Go.Proofs.Yticfabhcfdmbjaa
