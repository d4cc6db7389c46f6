/-
  LeafCuts walked.
-/
import Derived.Test.YticfabhcfdmbjaaYtP54
import Derived.Test.YticfabhcfdmbjaaYtL6
set_option linter.unusedVariables false
set_option linter.unusedSimpArgs false
namespace Go.Proofs.Yticfabhcfdmbjaa
open Go Go.Sl Go.Proofs
set_option maxRecDepth 20000
open Go.Mo
theorem LeafCuts_walk (haw : Ctr Try.prog 23 [] [] (fun v Ps => v = .bool true ∧ Ps = [])) (kind epoch group n : Int) (hE : U32 epoch) (hG : U32 group) (A : Assn) (bv : Value) (l : List UInt8) (hA : Ent A (view 1 bv l.length (l.map u8V))) (hll : l.length ≤ 140737488351232) : Ctr Try.prog 7 [.int .i64 kind, u32V epoch, u32V group, bv, .int .i64 n] [A] (fun v Ps => v = .bool true ∧ Ps = [A]) := by
  refine Ctr.of_body Try.func7 rfl (by kernel_rfl) Try.ntmps7 rfl rfl (fun Fr => ?_)
  refine T.peek (A := view 1 bv l.length (l.map u8V)) ((Ent.head _ _).trans hA) view_form ?_
  rintro ⟨q, cap, rfl, hcap, hcm, hqf⟩
  refine T.seq fun K1 hK1 => ?_
  refine T.region (l := [0]) rfl ?_
  refine RN.qq rfl rfl rfl rfl (PRun.q (p_assign rfl (by conv => lhs; whnf))) ?_
  refine RN.nil ?_
  refine hK1 _ _ ?_
  refine T.seq fun K2 hK2 => ?_
  refine T.seq fun K3 hK3 => ?_
  refine T.region (l := [0, 1]) rfl ?_
  refine RN.C [] rfl rfl rfl rfl (c_call rfl rfl) (haw) rfl ?_
  rintro _ _ ⟨rfl, rfl⟩
  refine RN.qq rfl rfl rfl rfl (PRun.q (by first | exact (p_not_dec rfl rfl) | exact (p_not rfl rfl))) ?_
  refine RN.nil ?_
  refine hK3 _ _ ?_
  refine T.known 18 rfl (show _ = Value.bool false from rfl) ?_
  refine T.cond_f rfl ?_
  refine T.skip ?_
  refine hK2 _ _ ?_
  refine T.seq fun K4 hK4 => ?_
  refine T.region (l := [0, 1, 2, 3, 4, 5]) rfl ?_
  refine RN.qq rfl rfl rfl rfl (PRun.q (p_move rfl (by conv => lhs; whnf))) ?_
  refine RN.qq rfl rfl rfl rfl (QRun.ent ((Ent.pull_drop (is := [0]) rfl).trans (Ent.cons hA (Ent.refl _))) (q_bytes_view rfl Try.underlying49 Try.underlying5 Try.underlying9 rfl (i := 0) rfl)) ?_
  refine RN.E rfl rfl rfl rfl (e_str_bytes rfl Try.underlying9 Try.underlying49 Try.underlying5 rfl (by omega)) ?_
  rintro _ _ ⟨b21, cap21, hcl21, hcm21, rfl, rfl⟩
  refine RN.E rfl rfl rfl rfl (e_buildSlice1 rfl Try.underlying49 ti_5 rfl (by conv => lhs; whnf) rfl) ?_
  rintro _ _ ⟨b22, rfl, rfl⟩
  refine RN.ent (Ent.at (i := 1) (B := vec 5 1 (slc b21 0 l.length cap21) l.length (l.map u8V)) rfl (vec_of_row (by simp) hcl21 hcm21 (by simp; omega))) ?_
  refine RN.E rfl rfl rfl rfl (e_append rfl Try.underlying49 ni_49 ti_5 rfl rfl (i := 1) rfl (src_full (i := 0) rfl rfl) (Go.Sl.one_one rfl) (by omega)) ?_
  rintro v23 _ ⟨hv23, rfl⟩
  rw [show l.map u8V ++ [Value.int .u8 9] = (l ++ [9]).map u8V from by simp]
  refine RN.qq rfl rfl rfl rfl (PRun.q (p_assign rfl (by conv => lhs; whnf))) ?_
  refine RN.nil ?_
  refine hK4 _ _ ?_
  refine T.seq fun K5 hK5 => ?_
  refine T.region (l := [0, 1, 2, 3, 4, 5, 6, 7, 8, 9, 10, 11, 12, 13]) rfl ?_
  refine RN.qq rfl rfl rfl rfl (PRun.q (p_move rfl (by conv => lhs; whnf))) ?_
  refine RN.qq rfl rfl rfl rfl (PRun.q (p_move rfl (by conv => lhs; whnf))) ?_
  refine RN.qq rfl rfl rfl rfl (PRun.q (p_move rfl (by conv => lhs; whnf))) ?_
  refine RN.qq rfl rfl rfl rfl (PRun.q (p_move rfl (by conv => lhs; whnf))) ?_
  refine RN.qq rfl rfl rfl rfl (PRun.q (p_move rfl (by conv => lhs; whnf))) ?_
  refine RN.qq rfl rfl rfl rfl (PRun.q (p_len rfl Try.underlying49 rfl)) ?_
  refine RN.openVec 1 rfl (by omega) ?_
  rintro b23 cap23 rest23 rfl hq1 hq2 hq3
  simp only [setN]
  refine RN.qq rfl rfl rfl rfl (PRun.q (p_slice_hi (h := l.length) rfl Try.underlying49 ts_5 rfl rfl (by omega))) ?_
  refine RN.qq rfl rfl rfl rfl (PRun.q (p_build (cs := strm kind epoch group (slc b23 0 l.length cap23)) rfl pl_51 ti_51 rfl)) ?_
  have hvr : Ent (row b23 5 ((l ++ [9]).map u8V ++ rest23)) (view 1 (slc b23 0 l.length cap23) l.length (l.map u8V)) := view_of_row (by simp) (by simp) (by omega) hq2
  refine RN.C [1] rfl rfl rfl rfl (c_call rfl rfl) (Cut_tot kind epoch group (row b23 5 ((l ++ [9]).map u8V ++ rest23)) (slc b23 0 l.length cap23) l hvr) rfl ?_
  rintro _ _ ⟨pv, er, pages, rfl, hpv, rfl, hcut⟩
  refine RN.qq rfl rfl rfl rfl (PRun.q (p_move rfl (by conv => lhs; whnf))) ?_
  refine RN.qq rfl rfl rfl rfl (PRun.q (p_extract rfl rfl rfl)) ?_
  refine RN.qq rfl rfl rfl rfl (PRun.q (p_extract rfl rfl rfl)) ?_
  refine RN.qq rfl rfl rfl rfl (PRun.q (p_assign rfl (by conv => lhs; whnf))) ?_
  refine RN.qq rfl rfl rfl rfl (PRun.q (p_assign rfl (by conv => lhs; whnf))) ?_
  refine RN.nil ?_
  refine hK5 _ _ ?_
  refine T.seq fun K6 hK6 => ?_
  refine T.seq fun K7 hK7 => ?_
  refine T.region (l := [0, 1, 2, 3, 4, 5, 6, 7, 8, 9, 10, 11, 12]) rfl ?_
  refine RN.qq rfl rfl rfl rfl (PRun.q (p_move rfl (by conv => lhs; whnf))) ?_
  refine RN.qq rfl rfl rfl rfl (q_bytes_str (l := l ++ [9]) rfl Try.underlying49 Try.underlying5 Try.underlying9 rfl (i := 1) rfl (by simp) (by rw [List.drop_zero, List.take_left' (by simp)])) ?_
  refine RN.qq rfl rfl rfl rfl (PRun.q (p_move rfl (by conv => lhs; whnf))) ?_
  refine RN.qq rfl rfl rfl rfl (QRun.ent ((Ent.pull_drop (is := [3]) rfl).trans (Ent.cons hA (Ent.refl _))) (q_bytes_view rfl Try.underlying49 Try.underlying5 Try.underlying9 rfl (i := 0) rfl)) ?_
  refine RN.qq rfl rfl rfl rfl (PRun.q (p_sadd rfl rfl rfl (by simp; omega))) ?_
  refine RN.qq rfl rfl rfl rfl (PRun.q (p_sneq rfl rfl rfl)) ?_
  refine RN.qq rfl rfl rfl rfl (PRun.q (p_move rfl (by conv => lhs; whnf))) ?_
  refine RN.known 42 rfl (show _ = Value.bool false from congrArg Value.bool (decide_eq_false (fun h => h rfl))) ?_
  refine RN.qq rfl rfl rfl rfl (PRun.q (p_move rfl (by conv => lhs; whnf))) ?_
  refine RN.C [] rfl rfl rfl rfl (c_call rfl rfl) (Pages_spec n) rfl ?_
  rintro _ _ ⟨rfl, rfl⟩
  refine RN.qq rfl rfl rfl rfl (PRun.q (p_move rfl (by conv => lhs; whnf))) ?_
  refine RN.C [] rfl rfl rfl rfl (c_call rfl rfl) (RPages_spec n) rfl ?_
  rintro _ _ ⟨rfl, rfl⟩
  refine RN.qq rfl rfl rfl rfl (PRun.q (p_neq rfl rfl rfl)) ?_
  refine RN.qq rfl rfl rfl rfl (PRun.q (p_pick_f rfl rfl (by conv => lhs; whnf))) ?_
  refine RN.nil ?_
  refine hK7 _ _ ?_
  refine T.known 48 rfl (show _ = Value.bool false from congrArg Value.bool (decide_eq_false (fun h => h rfl))) ?_
  refine T.cond_f rfl ?_
  refine T.skip ?_
  refine hK6 _ _ ?_
  refine T.cut (G := Unit) (fun ⟨⟩ => kind = 2 ∨ kind = 3) (fun ⟨⟩ => [(0, .int .i64 kind), (1, u32V epoch), (2, u32V group), (3, .slice q l.length cap), (12, pv), (13, .int .i64 er)]) (fun ⟨⟩ => [vec 54 39 pv pages.length (pgs pages), A, Fr]) ?_ ?_
  ·
    refine T.seq fun K9 hK9 => ?_
    refine T.region (l := [0, 1, 2, 3, 4, 5]) rfl ?_
    refine RN.qq rfl rfl rfl rfl (PRun.q (p_move rfl (by conv => lhs; whnf))) ?_
    refine RN.qq rfl rfl rfl rfl (PRun.q (p_neq rfl rfl rfl)) ?_
    refine RN.qq rfl rfl rfl rfl (PRun.q (p_move rfl (by conv => lhs; whnf))) ?_
    first | refine RN.split_dec 51 rfl (fun h51 => ?_) (fun h51 => ?_) | refine RN.split 51 rfl (fun h51 => ?_) (fun h51 => ?_)
    ·
      refine RN.qq rfl rfl rfl rfl (PRun.q (p_move rfl (by conv => lhs; whnf))) ?_
      refine RN.qq rfl rfl rfl rfl (PRun.q (p_neq rfl rfl rfl)) ?_
      refine RN.qq rfl rfl rfl rfl (PRun.q (p_pick_t rfl rfl (by conv => lhs; whnf))) ?_
      refine RN.nil ?_
      refine hK9 _ _ ?_
      first | refine T.cond_dec rfl (fun h54 => ?_) (fun h54 => ?_) | refine T.cond rfl (fun h54 => ?_) (fun h54 => ?_)
      ·
        obtain ⟨rfl, rfl⟩ : er = 1 ∧ pages = [] := by
          rcases hcut with ⟨h1, h2, h3⟩ | ⟨h1, h2, h3, h4⟩ | ⟨h1, h2, h3, h4⟩
          · exact ⟨h2, h3⟩
          · exact absurd h1 (by omega)
          · exact absurd h1 (by omega)
        refine T.seq fun K10 hK10 => ?_
        refine T.region (l := [0, 1, 2, 3, 4, 5, 6, 7]) rfl ?_
        refine RN.qq rfl rfl rfl rfl (PRun.q (p_move rfl (by conv => lhs; whnf))) ?_
        refine RN.qq rfl rfl rfl rfl (PRun.q (p_eql rfl rfl rfl)) ?_
        refine RN.qq rfl rfl rfl rfl (PRun.q (p_move rfl (by conv => lhs; whnf))) ?_
        refine RN.known 57 rfl (show _ = Value.bool true from rfl) ?_
        refine RN.qq rfl rfl rfl rfl (PRun.q (p_move rfl (by conv => lhs; whnf))) ?_
        refine RN.qq rfl rfl rfl rfl (q_len_vec rfl Try.underlying45 rfl (i := 0) rfl) ?_
        refine RN.qq rfl rfl rfl rfl (PRun.q (p_eql rfl rfl rfl)) ?_
        refine RN.qq rfl rfl rfl rfl (PRun.q (p_pick_t rfl rfl (by conv => lhs; whnf))) ?_
        refine RN.qq rfl rfl rfl rfl (PRun.q (p_assign rfl (by conv => lhs; whnf))) ?_
        refine RN.nil ?_
        refine hK10 _ _ ?_
        refine T.ret ?_
        refine Post.seq_r ?_
        refine bodyQ_ret [A] (RetRun.tmp RetRun.nil) ⟨rfl, rfl⟩ (Ent.pull_drop (is := [3, 3]) rfl)
      ·
        refine T.skip ?_
        refine ⟨(), (by omega), (LiveIs.cons rfl (LiveIs.cons rfl (LiveIs.cons rfl (LiveIs.cons rfl (LiveIs.cons rfl (LiveIs.cons rfl LiveIs.nil)))))), (Ent.pull_drop (is := [0, 2, 2]) rfl)⟩
    ·
      refine RN.O rfl rfl rfl rfl ?_
      refine RN.O rfl rfl rfl rfl ?_
      refine RN.qq rfl rfl rfl rfl (PRun.q (p_pick_f rfl rfl (by conv => lhs; whnf))) ?_
      refine RN.nil ?_
      refine hK9 _ _ ?_
      refine T.cond_f rfl ?_
      refine T.skip ?_
      refine ⟨(), (by omega), (LiveIs.cons rfl (LiveIs.cons rfl (LiveIs.cons rfl (LiveIs.cons rfl (LiveIs.cons rfl (LiveIs.cons rfl LiveIs.nil)))))), (Ent.pull_drop (is := [0, 2, 2]) rfl)⟩
  ·
    rintro ⟨⟩ e8 hk
    refine T.seq fun K11 hK11 => ?_
    refine T.seq fun K12 hK12 => ?_
    refine T.region (l := [0, 1, 2]) rfl ?_
    refine RN.qq rfl rfl rfl rfl (PRun.q (p_move rfl (by conv => lhs; whnf))) ?_
    refine RN.qq rfl rfl rfl rfl (PRun.q (p_len rfl Try.underlying49 rfl)) ?_
    refine RN.qq rfl rfl rfl rfl (PRun.q (p_gtr rfl rfl rfl)) ?_
    refine RN.nil ?_
    refine hK12 _ _ ?_
    first | refine T.cond_dec rfl (fun h64 => ?_) (fun h64 => ?_) | refine T.cond rfl (fun h64 => ?_) (fun h64 => ?_)
    ·
      obtain ⟨rfl, rfl⟩ : er = 2 ∧ pages = [] := by
        rcases hcut with ⟨h1, h2, h3⟩ | ⟨h1, h2, h3, h4⟩ | ⟨h1, h2, h3, h4⟩
        · omega
        · exact ⟨h3, h4⟩
        · omega
      refine T.seq fun K13 hK13 => ?_
      refine T.region (l := [0, 1, 2, 3, 4, 5, 6, 7]) rfl ?_
      refine RN.qq rfl rfl rfl rfl (PRun.q (p_move rfl (by conv => lhs; whnf))) ?_
      refine RN.qq rfl rfl rfl rfl (PRun.q (p_eql rfl rfl rfl)) ?_
      refine RN.qq rfl rfl rfl rfl (PRun.q (p_move rfl (by conv => lhs; whnf))) ?_
      refine RN.known 67 rfl (show _ = Value.bool true from rfl) ?_
      refine RN.qq rfl rfl rfl rfl (PRun.q (p_move rfl (by conv => lhs; whnf))) ?_
      refine RN.qq rfl rfl rfl rfl (q_len_vec rfl Try.underlying45 rfl (i := 0) rfl) ?_
      refine RN.qq rfl rfl rfl rfl (PRun.q (p_eql rfl rfl rfl)) ?_
      refine RN.qq rfl rfl rfl rfl (PRun.q (p_pick_t rfl rfl (by conv => lhs; whnf))) ?_
      refine RN.qq rfl rfl rfl rfl (PRun.q (p_assign rfl (by conv => lhs; whnf))) ?_
      refine RN.nil ?_
      refine hK13 _ _ ?_
      refine T.ret ?_
      refine Post.seq_r ?_
      refine bodyQ_ret [A] (RetRun.tmp RetRun.nil) ⟨rfl, rfl⟩ (Ent.pull_drop (is := [1, 1]) rfl)
    ·
      have hlen : l.length ≤ 65536 := by omega
      have hpn := pagesN_le hlen
      obtain ⟨rfl, rfl⟩ : er = 0 ∧ pages = (cutL kind epoch group l (pagesN l.length)) := by
        rcases hcut with ⟨h1, h2, h3⟩ | ⟨h1, h2, h3, h4⟩ | ⟨h1, h2, h3, h4⟩
        · omega
        · omega
        · exact ⟨h3, h4⟩
      refine T.skip ?_
      refine hK11 _ _ ?_
      refine T.seq fun K14 hK14 => ?_
      refine T.region (l := [0, 1, 2, 3, 4, 5, 6]) rfl ?_
      refine RN.qq rfl rfl rfl rfl (PRun.q (p_move rfl (by conv => lhs; whnf))) ?_
      refine RN.qq rfl rfl rfl rfl (PRun.q (p_move rfl (by conv => lhs; whnf))) ?_
      refine RN.qq rfl rfl rfl rfl (PRun.q (p_move rfl (by conv => lhs; whnf))) ?_
      refine RN.qq rfl rfl rfl rfl (PRun.q (p_move rfl (by conv => lhs; whnf))) ?_
      refine RN.qq rfl rfl rfl rfl (PRun.q (p_build (cs := strm kind epoch group (.slice q l.length cap)) rfl pl_57 ti_57 rfl)) ?_
      refine RN.C [1] rfl rfl rfl rfl (c_call rfl rfl) (RCut_spec kind epoch group A (.slice q l.length cap) l hA hlen) rfl ?_
      rintro v77 _ ⟨hv77, rfl⟩
      refine RN.qq rfl rfl rfl rfl (PRun.q (p_assign rfl (by conv => lhs; whnf))) ?_
      refine RN.nil ?_
      refine hK14 _ _ ?_
      refine T.seq fun K15 hK15 => ?_
      refine T.seq fun K16 hK16 => ?_
      refine T.region (l := [0, 1, 2, 3, 4, 5, 6, 7, 8]) rfl ?_
      refine RN.qq rfl rfl rfl rfl (PRun.q (p_move rfl (by conv => lhs; whnf))) ?_
      refine RN.qq rfl rfl rfl rfl (PRun.q (p_neq rfl rfl rfl)) ?_
      refine RN.qq rfl rfl rfl rfl (PRun.q (p_move rfl (by conv => lhs; whnf))) ?_
      refine RN.known 80 rfl (show _ = Value.bool false from rfl) ?_
      refine RN.qq rfl rfl rfl rfl (PRun.q (p_move rfl (by conv => lhs; whnf))) ?_
      refine RN.qq rfl rfl rfl rfl (q_len_vec rfl Try.underlying45 rfl (i := 2) rfl) ?_
      refine RN.qq rfl rfl rfl rfl (PRun.q (p_move rfl (by conv => lhs; whnf))) ?_
      refine RN.qq rfl rfl rfl rfl (q_len_vec rfl Try.underlying45 rfl (i := 0) rfl) ?_
      refine RN.qq rfl rfl rfl rfl (PRun.q (p_neq rfl rfl rfl)) ?_
      refine RN.qq rfl rfl rfl rfl (PRun.q (p_pick_f rfl rfl (by conv => lhs; whnf))) ?_
      refine RN.nil ?_
      refine hK16 _ _ ?_
      refine T.known 86 rfl (show _ = Value.bool false from congrArg Value.bool (decide_eq_false (fun h => h (by rw [cutL_length])))) ?_
      refine T.cond_f rfl ?_
      refine T.skip ?_
      refine hK15 _ _ ?_
      refine T.seq fun K17 hK17 => ?_
      refine T.seq fun K18 hK18 => ?_
      refine T.openVec 0 rfl (by omega) ?_
      rintro bW capW restW rfl w1 w2 w3
      refine T.openVec 2 rfl (by rw [cutL_length]; omega) ?_
      rintro bP capP restP rfl p1 p2 p3
      refine T.region (l := [0]) rfl ?_
      refine RN.qq rfl rfl rfl rfl (PRun.q (p_assign rfl (by conv => lhs; whnf))) ?_
      refine RN.nil ?_
      refine hK18 _ _ ?_
      refine T.block ?_
      refine T.loop (G := Nat) (fun i => i ≤ pagesN l.length) (fun i => [(0, .int .i64 kind), (1, u32V epoch), (2, u32V group), (3, .slice q l.length cap), (12, slc bP 0 (cutL kind epoch group l (pagesN l.length)).length capP), (14, slc bW 0 (pagesN l.length) capW), (15, intV i)]) (fun i => [row bW 54 (pgs (cutL kind epoch group l (pagesN l.length)) ++ restW), A, row bP 54 (pgs (cutL kind epoch group l (pagesN l.length)) ++ restP), Fr]) (fun i => pagesN l.length - i) 0 (Nat.zero_le _) (LiveIs.cons rfl (LiveIs.cons rfl (LiveIs.cons rfl (LiveIs.cons rfl (LiveIs.cons rfl (LiveIs.cons rfl (LiveIs.cons rfl LiveIs.nil))))))) (Ent.refl _) ?_
      rintro i e19 hiN
      refine T.seq fun K20 hK20 => ?_
      refine T.seq fun K21 hK21 => ?_
      refine T.region (l := [0, 1, 2, 3]) rfl ?_
      refine RN.qq rfl rfl rfl rfl (PRun.q (p_move rfl (by conv => lhs; whnf))) ?_
      refine RN.qq rfl rfl rfl rfl (PRun.q (p_move rfl (by conv => lhs; whnf))) ?_
      refine RN.qq rfl rfl rfl rfl (PRun.q (p_len rfl Try.underlying45 rfl)) ?_
      refine RN.qq rfl rfl rfl rfl (PRun.q (p_lss rfl rfl rfl)) ?_
      refine RN.nil ?_
      refine hK21 _ _ ?_
      first | refine T.cond_dec rfl (fun h90 => ?_) (fun h90 => ?_) | refine T.cond rfl (fun h90 => ?_) (fun h90 => ?_)
      ·
        have hi : i < pagesN l.length := by omega
        have hiC : i < (cutL kind epoch group l (pagesN l.length)).length := by rw [cutL_length]; exact hi
        have hiF := cut_fit (kind := kind) hE hG hlen _ (List.getElem_mem hiC)
        have hiK : ((cutL kind epoch group l (pagesN l.length))[i]).kind = 2 ∨ ((cutL kind epoch group l (pagesN l.length))[i]).kind = 3 := by rw [hiF.2.2]; exact hk
        refine T.skip ?_
        refine hK20 _ _ ?_
        refine T.seq fun K22 hK22 => ?_
        refine T.block ?_
        refine T.seq fun K23 hK23 => ?_
        refine T.regionD (z := 9) (Bs := [row bW 54 (pgs (cutL kind epoch group l (pagesN l.length)) ++ restW), row bP 54 (pgs (cutL kind epoch group l (pagesN l.length)) ++ restP)]) (l := [(0, .pure), (1, .pure), (2, .pure), (3, .load), (4, .pure), (5, .pure), (6, .pure), (7, .load), (8, .pure)]) mixed (by kernel_rfl) (by first | exact Ent.refl _ | exact Ent.pull_drop (is := [0, 0]) rfl | exact Ent.pull_drop (is := [0, 1]) rfl | exact Ent.pull_drop (is := [0, 2]) rfl | exact Ent.pull_drop (is := [0, 3]) rfl | exact Ent.pull_drop (is := [0, 4]) rfl | exact Ent.pull_drop (is := [0, 5]) rfl | exact Ent.pull_drop (is := [0, 6]) rfl | exact Ent.pull_drop (is := [1, 0]) rfl | exact Ent.pull_drop (is := [1, 1]) rfl | exact Ent.pull_drop (is := [1, 2]) rfl | exact Ent.pull_drop (is := [1, 3]) rfl | exact Ent.pull_drop (is := [1, 4]) rfl | exact Ent.pull_drop (is := [1, 5]) rfl | exact Ent.pull_drop (is := [1, 6]) rfl | exact Ent.pull_drop (is := [2, 0]) rfl | exact Ent.pull_drop (is := [2, 1]) rfl | exact Ent.pull_drop (is := [2, 2]) rfl | exact Ent.pull_drop (is := [2, 3]) rfl | exact Ent.pull_drop (is := [2, 4]) rfl | exact Ent.pull_drop (is := [2, 5]) rfl | exact Ent.pull_drop (is := [2, 6]) rfl | exact Ent.pull_drop (is := [3, 0]) rfl | exact Ent.pull_drop (is := [3, 1]) rfl | exact Ent.pull_drop (is := [3, 2]) rfl | exact Ent.pull_drop (is := [3, 3]) rfl | exact Ent.pull_drop (is := [3, 4]) rfl | exact Ent.pull_drop (is := [3, 5]) rfl | exact Ent.pull_drop (is := [3, 6]) rfl | exact Ent.pull_drop (is := [4, 0]) rfl | exact Ent.pull_drop (is := [4, 1]) rfl | exact Ent.pull_drop (is := [4, 2]) rfl | exact Ent.pull_drop (is := [4, 3]) rfl | exact Ent.pull_drop (is := [4, 4]) rfl | exact Ent.pull_drop (is := [4, 5]) rfl | exact Ent.pull_drop (is := [4, 6]) rfl | exact Ent.pull_drop (is := [5, 0]) rfl | exact Ent.pull_drop (is := [5, 1]) rfl | exact Ent.pull_drop (is := [5, 2]) rfl | exact Ent.pull_drop (is := [5, 3]) rfl | exact Ent.pull_drop (is := [5, 4]) rfl | exact Ent.pull_drop (is := [5, 5]) rfl | exact Ent.pull_drop (is := [5, 6]) rfl | exact Ent.pull_drop (is := [6, 0]) rfl | exact Ent.pull_drop (is := [6, 1]) rfl | exact Ent.pull_drop (is := [6, 2]) rfl | exact Ent.pull_drop (is := [6, 3]) rfl | exact Ent.pull_drop (is := [6, 4]) rfl | exact Ent.pull_drop (is := [6, 5]) rfl | exact Ent.pull_drop (is := [6, 6]) rfl | exact Ent.pull_drop (is := [7, 0]) rfl | exact Ent.pull_drop (is := [7, 1]) rfl | exact Ent.pull_drop (is := [7, 2]) rfl | exact Ent.pull_drop (is := [7, 3]) rfl | exact Ent.pull_drop (is := [7, 4]) rfl | exact Ent.pull_drop (is := [7, 5]) rfl | exact Ent.pull_drop (is := [7, 6]) rfl) ?_
        refine RD.pp rfl rfl rfl rfl (p_move rfl (by conv => lhs; whnf)) ?_
        refine RD.pp rfl rfl rfl rfl (p_move rfl (by conv => lhs; whnf)) ?_
        refine RD.pp rfl rfl rfl rfl (by first | exact (p_indexAddrN rfl Try.underlying45 ts_54 rfl rfl (by omega)) | exact (p_indexAddr rfl Try.underlying45 ts_54 rfl rfl (by omega))) ?_
        refine RD.qq rfl rfl rfl rfl (q_loadA rfl ag_54 ts_54 rfl (i := 1) rfl (by rw [List.length_append, pgs_length cutL_pay]; omega) (pgs_get' cutL_pay hiC)) (by first | exact Ent.refl _ | exact Ent.pull_drop (is := [0, 0]) rfl | exact Ent.pull_drop (is := [0, 1]) rfl | exact Ent.pull_drop (is := [0, 2]) rfl | exact Ent.pull_drop (is := [0, 3]) rfl | exact Ent.pull_drop (is := [0, 4]) rfl | exact Ent.pull_drop (is := [0, 5]) rfl | exact Ent.pull_drop (is := [0, 6]) rfl | exact Ent.pull_drop (is := [1, 0]) rfl | exact Ent.pull_drop (is := [1, 1]) rfl | exact Ent.pull_drop (is := [1, 2]) rfl | exact Ent.pull_drop (is := [1, 3]) rfl | exact Ent.pull_drop (is := [1, 4]) rfl | exact Ent.pull_drop (is := [1, 5]) rfl | exact Ent.pull_drop (is := [1, 6]) rfl | exact Ent.pull_drop (is := [2, 0]) rfl | exact Ent.pull_drop (is := [2, 1]) rfl | exact Ent.pull_drop (is := [2, 2]) rfl | exact Ent.pull_drop (is := [2, 3]) rfl | exact Ent.pull_drop (is := [2, 4]) rfl | exact Ent.pull_drop (is := [2, 5]) rfl | exact Ent.pull_drop (is := [2, 6]) rfl | exact Ent.pull_drop (is := [3, 0]) rfl | exact Ent.pull_drop (is := [3, 1]) rfl | exact Ent.pull_drop (is := [3, 2]) rfl | exact Ent.pull_drop (is := [3, 3]) rfl | exact Ent.pull_drop (is := [3, 4]) rfl | exact Ent.pull_drop (is := [3, 5]) rfl | exact Ent.pull_drop (is := [3, 6]) rfl | exact Ent.pull_drop (is := [4, 0]) rfl | exact Ent.pull_drop (is := [4, 1]) rfl | exact Ent.pull_drop (is := [4, 2]) rfl | exact Ent.pull_drop (is := [4, 3]) rfl | exact Ent.pull_drop (is := [4, 4]) rfl | exact Ent.pull_drop (is := [4, 5]) rfl | exact Ent.pull_drop (is := [4, 6]) rfl | exact Ent.pull_drop (is := [5, 0]) rfl | exact Ent.pull_drop (is := [5, 1]) rfl | exact Ent.pull_drop (is := [5, 2]) rfl | exact Ent.pull_drop (is := [5, 3]) rfl | exact Ent.pull_drop (is := [5, 4]) rfl | exact Ent.pull_drop (is := [5, 5]) rfl | exact Ent.pull_drop (is := [5, 6]) rfl | exact Ent.pull_drop (is := [6, 0]) rfl | exact Ent.pull_drop (is := [6, 1]) rfl | exact Ent.pull_drop (is := [6, 2]) rfl | exact Ent.pull_drop (is := [6, 3]) rfl | exact Ent.pull_drop (is := [6, 4]) rfl | exact Ent.pull_drop (is := [6, 5]) rfl | exact Ent.pull_drop (is := [6, 6]) rfl | exact Ent.pull_drop (is := [7, 0]) rfl | exact Ent.pull_drop (is := [7, 1]) rfl | exact Ent.pull_drop (is := [7, 2]) rfl | exact Ent.pull_drop (is := [7, 3]) rfl | exact Ent.pull_drop (is := [7, 4]) rfl | exact Ent.pull_drop (is := [7, 5]) rfl | exact Ent.pull_drop (is := [7, 6]) rfl) ?_
        refine RD.pp rfl rfl rfl rfl (p_move rfl (by conv => lhs; whnf)) ?_
        refine RD.pp rfl rfl rfl rfl (p_move rfl (by conv => lhs; whnf)) ?_
        refine RD.pp rfl rfl rfl rfl (by first | exact (p_indexAddrN rfl Try.underlying45 ts_54 rfl rfl (by omega)) | exact (p_indexAddr rfl Try.underlying45 ts_54 rfl rfl (by omega))) ?_
        refine RD.qq rfl rfl rfl rfl (q_loadA rfl ag_54 ts_54 rfl (i := 0) rfl (by rw [List.length_append, pgs_length cutL_pay]; omega) (pgs_get' cutL_pay hiC)) (by first | exact Ent.refl _ | exact Ent.pull_drop (is := [0, 0]) rfl | exact Ent.pull_drop (is := [0, 1]) rfl | exact Ent.pull_drop (is := [0, 2]) rfl | exact Ent.pull_drop (is := [0, 3]) rfl | exact Ent.pull_drop (is := [0, 4]) rfl | exact Ent.pull_drop (is := [0, 5]) rfl | exact Ent.pull_drop (is := [0, 6]) rfl | exact Ent.pull_drop (is := [1, 0]) rfl | exact Ent.pull_drop (is := [1, 1]) rfl | exact Ent.pull_drop (is := [1, 2]) rfl | exact Ent.pull_drop (is := [1, 3]) rfl | exact Ent.pull_drop (is := [1, 4]) rfl | exact Ent.pull_drop (is := [1, 5]) rfl | exact Ent.pull_drop (is := [1, 6]) rfl | exact Ent.pull_drop (is := [2, 0]) rfl | exact Ent.pull_drop (is := [2, 1]) rfl | exact Ent.pull_drop (is := [2, 2]) rfl | exact Ent.pull_drop (is := [2, 3]) rfl | exact Ent.pull_drop (is := [2, 4]) rfl | exact Ent.pull_drop (is := [2, 5]) rfl | exact Ent.pull_drop (is := [2, 6]) rfl | exact Ent.pull_drop (is := [3, 0]) rfl | exact Ent.pull_drop (is := [3, 1]) rfl | exact Ent.pull_drop (is := [3, 2]) rfl | exact Ent.pull_drop (is := [3, 3]) rfl | exact Ent.pull_drop (is := [3, 4]) rfl | exact Ent.pull_drop (is := [3, 5]) rfl | exact Ent.pull_drop (is := [3, 6]) rfl | exact Ent.pull_drop (is := [4, 0]) rfl | exact Ent.pull_drop (is := [4, 1]) rfl | exact Ent.pull_drop (is := [4, 2]) rfl | exact Ent.pull_drop (is := [4, 3]) rfl | exact Ent.pull_drop (is := [4, 4]) rfl | exact Ent.pull_drop (is := [4, 5]) rfl | exact Ent.pull_drop (is := [4, 6]) rfl | exact Ent.pull_drop (is := [5, 0]) rfl | exact Ent.pull_drop (is := [5, 1]) rfl | exact Ent.pull_drop (is := [5, 2]) rfl | exact Ent.pull_drop (is := [5, 3]) rfl | exact Ent.pull_drop (is := [5, 4]) rfl | exact Ent.pull_drop (is := [5, 5]) rfl | exact Ent.pull_drop (is := [5, 6]) rfl | exact Ent.pull_drop (is := [6, 0]) rfl | exact Ent.pull_drop (is := [6, 1]) rfl | exact Ent.pull_drop (is := [6, 2]) rfl | exact Ent.pull_drop (is := [6, 3]) rfl | exact Ent.pull_drop (is := [6, 4]) rfl | exact Ent.pull_drop (is := [6, 5]) rfl | exact Ent.pull_drop (is := [6, 6]) rfl | exact Ent.pull_drop (is := [7, 0]) rfl | exact Ent.pull_drop (is := [7, 1]) rfl | exact Ent.pull_drop (is := [7, 2]) rfl | exact Ent.pull_drop (is := [7, 3]) rfl | exact Ent.pull_drop (is := [7, 4]) rfl | exact Ent.pull_drop (is := [7, 5]) rfl | exact Ent.pull_drop (is := [7, 6]) rfl) ?_
        refine RD.pp rfl rfl rfl rfl (p_aggneq (p := True) rfl key54 rfl rfl (plain_pg hiK hiF.1 hiF.2.1) (plain_pg hiK hiF.1 hiF.2.1) ⟨fun _ => rfl, fun _ => trivial⟩) ?_
        refine RD.nil ?_
        refine hK23 _ _ ?_
        refine T.known 101 rfl (show _ = Value.bool false from congrArg Value.bool (decide_eq_false (fun h => h trivial))) ?_
        refine T.cond_f rfl ?_
        refine T.skip ?_
        refine hK22 _ _ ?_
        refine T.region (l := [0, 1, 2]) rfl ?_
        refine RN.qq rfl rfl rfl rfl (PRun.q (p_move rfl (by conv => lhs; whnf))) ?_
        refine RN.qq rfl rfl rfl rfl (PRun.q (by first | exact (p_addN (b := 1) rfl rfl rfl (by omega)) | exact (p_add rfl rfl rfl (by omega)))) ?_
        refine RN.qq rfl rfl rfl rfl (PRun.q (p_assign rfl (by conv => lhs; whnf))) ?_
        refine RN.nil ?_
        refine ⟨i + 1, (by omega), (by omega), (LiveIs.cons rfl (LiveIs.cons rfl (LiveIs.cons rfl (LiveIs.cons rfl (LiveIs.cons rfl (LiveIs.cons rfl (LiveIs.cons rfl LiveIs.nil))))))), Ent.refl _⟩
      ·
        have hi : i = pagesN l.length := by omega
        refine T.exit ?_
        refine Post.seq_x ?_
        refine Post.seq_x ?_
        refine Post.block_hit ?_
        refine hK17 _ _ ?_
        refine T.seq fun K24 hK24 => ?_
        refine T.region (l := [0, 1, 2]) rfl ?_
        refine RN.qq rfl rfl rfl rfl (PRun.q (p_move rfl (by conv => lhs; whnf))) ?_
        refine RN.C [2] rfl rfl rfl rfl (c_call rfl rfl) (LJoin_spec (row bP 54 (pgs (cutL kind epoch group l (pagesN l.length)) ++ restP)) (slc bP 0 (cutL kind epoch group l (pagesN l.length)).length capP) (cutL kind epoch group l (pagesN l.length)) (view_of_row (by rw [List.length_append, pgs_length cutL_pay]; omega) (by rw [List.drop_zero, List.take_append_of_le_length (by rw [pgs_length cutL_pay]; omega), List.take_of_length_le (by rw [pgs_length cutL_pay]; omega)]) p1 p2) (fun p hp => (cut_fit hE hG hlen p hp).1) (by rw [cutL_length]; omega)) rfl ?_
        rintro v103 _ ⟨ks, rs, hks, hrs, hv103, hone, rfl⟩
        rw [join_cut hk hlen hks] at hrs
        obtain ⟨s, rfl, hsk, hsb⟩ := one_of hrs
        refine RN.qq rfl rfl rfl rfl (PRun.q (p_assign rfl (by conv => lhs; whnf))) ?_
        refine RN.nil ?_
        refine hK24 _ _ ?_
        refine T.seq fun K25 hK25 => ?_
        refine T.region (l := [0, 1, 2, 3, 4, 5, 6, 7, 8, 9, 10, 11, 12, 13, 14]) rfl ?_
        refine RN.qq rfl rfl rfl rfl (PRun.q (p_move rfl (by conv => lhs; whnf))) ?_
        refine RN.qq rfl rfl rfl rfl (q_len_vec rfl Try.underlying58 rfl (i := 0) rfl) ?_
        refine RN.qq rfl rfl rfl rfl (PRun.q (p_eql rfl rfl rfl)) ?_
        refine RN.qq rfl rfl rfl rfl (PRun.q (p_move rfl (by conv => lhs; whnf))) ?_
        refine RN.known 107 rfl (show _ = Value.bool true from rfl) ?_
        refine RN.qq rfl rfl rfl rfl (PRun.q (p_move rfl (by conv => lhs; whnf))) ?_
        refine RN.openVec 0 rfl (by simp) ?_
        rintro bS capS restS rfl s1 s2 s3
        refine RN.qq rfl rfl rfl rfl (PRun.q (by first | exact (p_indexAddrN (i := 0) rfl Try.underlying58 ts_51 rfl rfl (by simp)) | exact (p_indexAddr rfl Try.underlying58 ts_51 rfl rfl (by simp)))) ?_
        refine RN.qq rfl rfl rfl rfl (q_loadA (vs := s.cells) rfl ag_51 ts_51 rfl (i := 0) rfl (by simp [Sm.cells, strm]) (by simp [Sm.cells, strm])) ?_
        refine RN.qq rfl rfl rfl rfl (PRun.q (p_move rfl (by conv => lhs; whnf))) ?_
        refine RN.qq rfl rfl rfl rfl (PRun.q (p_move rfl (by conv => lhs; whnf))) ?_
        refine RN.qq rfl rfl rfl rfl (PRun.q (p_move rfl (by conv => lhs; whnf))) ?_
        refine RN.qq rfl rfl rfl rfl (PRun.q (p_move rfl (by conv => lhs; whnf))) ?_
        refine RN.qq rfl rfl rfl rfl (PRun.q (p_build (cs := strm kind epoch group (.slice q l.length cap)) rfl pl_57 ti_57 rfl)) ?_
        refine RN.ent ((Ent.pull_drop (is := [1, 3, 3]) rfl).trans ((Ent.flat [s.own] [A, Fr]).trans (Ent.unflat [s.own, A] [Fr]))) ?_
        refine RN.C [0] rfl rfl rfl rfl (c_call rfl rfl) (same_spec s.key.kind s.key.epoch s.key.group kind epoch group (sep [s.own, A]) s.v (.slice q l.length cap) s.bytes l ((Ent.head _ _).trans (show Ent s.own _ from view_of_vec)) ((Ent.drop _ _).trans ((Ent.head _ _).trans hA))) rfl ?_
        rintro _ _ ⟨rfl, rfl⟩
        refine RN.qq rfl rfl rfl rfl (PRun.q (p_pick_t rfl rfl (by conv => lhs; whnf))) ?_
        refine RN.qq rfl rfl rfl rfl (PRun.q (p_assign rfl (by conv => lhs; whnf))) ?_
        refine RN.nil ?_
        refine hK25 _ _ ?_
        refine T.ret ?_
        refine bodyQ_ret [A] (RetRun.tmp RetRun.nil) ⟨congrArg Value.bool (decide_eq_true ⟨by rw [hsk], by rw [hsk], by rw [hsk], hsb⟩), rfl⟩ ((Ent.flat [s.own, A] [Fr]).trans (Ent.drop _ _))

end Go.Proofs.Yticfabhcfdmbjaa
