/-
 Commands told, a line each: walked.
-/
import Derived.Test.YtokbjejbgbdkoaaDoorGYdE2
import Derived.Test.YtokbjejbgbdkoaaDoorGModelC
set_option linter.unusedVariables false
set_option linter.unusedSimpArgs false
namespace Go.Proofs.YtokbjejbgbdkoaaDoor
open Go Go.Sl Go.Proofs
set_option maxRecDepth 20000
open Go.Mo Go.Proofs Go.Shelf Go.RowKit Go.Evl
theorem pr_le (cs : List Cm) (n : Nat) : (prF (cs.take n)).length ≤ (prF cs).length := by
 have h := prF_app (cs.take n) (cs.drop n)
 rw [List.take_append_drop] at h
 rw [h, List.length_append]
 omega
theorem pr_step {cs : List Cm} {i : Nat} {q : List UInt8} (hi : i < cs.length) (h : q = prF (cs.take i)) : q ++ (textF cs[i] ++ [10]) = prF (cs.take (i + 1)) := by
 rw [h, List.take_succ_eq_append_getElem hi, prF_one]

theorem Print_spec (A : Assn) (hA : Glob 1 2 A) (hB : Glob2 Tryd.prog 0 A) (cs : List Cm) (hok : ∀ c ∈ cs, CmOk c) (hp : (prF cs).length ≤ 900000000) (v : Value) : Ctr Tryd.prog 10 [v] [vec 40 1 v cs.length (cs.map cmV), A] (fun w Ps => w = strV (prF cs) ∧ Ps = [vec 40 1 v cs.length (cs.map cmV), A]) := by
 refine Ctr.of_body Tryd.func10 rfl (by kernel_rfl) Tryd.ntmps10 rfl rfl (fun Fr => ?_)
 refine T.seq fun K1 hK1 => ?_
 refine T.region (l := [0]) rfl ?_
 refine RN.a rfl ?_
 refine RN.nil ?_
 refine hK1 _ _ ?_
 refine T.seq fun K2 hK2 => ?_
 refine T.region (l := [0]) rfl ?_
 refine RN.E rfl rfl rfl rfl (e_alloc rfl ti_57) ?_
 rintro _ _ ⟨b3, rfl, rfl⟩
 refine RN.nil ?_
 refine hK2 _ _ ?_
 refine T.seq fun K3 hK3 => ?_
 refine T.seq fun K4 hK4 => ?_
 refine T.ent (bld_new (el := 5)) ?_
 refine T.region (l := [0, 1, 2]) rfl ?_
 refine RN.m rfl ?_
 refine RN.u rfl (q_len_vec rfl Tryd.underlying28 rfl (i := 1) rfl) ?_
 refine RN.m rfl ?_
 refine RN.nil ?_
 refine hK4 _ _ ?_
 refine T.block ?_
 refine T.loop (G := Nat × List UInt8) (fun ⟨i, q⟩ => i ≤ cs.length ∧ q = prF (cs.take i)) (fun ⟨i, q⟩ => [(3, ptr b3 0), (6, v), (7, intV cs.length), (8, intV i)]) (fun ⟨i, q⟩ => [bld 57 5 b3 (q), vec 40 1 v cs.length (cs.map cmV), A, Fr]) (fun ⟨i, q⟩ => cs.length - i) (0, []) ⟨Nat.zero_le _, rfl⟩ (LiveIs.cons rfl (LiveIs.cons rfl (LiveIs.cons rfl (LiveIs.cons rfl LiveIs.nil)))) (Ent.refl _) ?_
 rintro ⟨i, q⟩ e5 ⟨hin, hq⟩
 dsimp only
 refine T.seq fun K6 hK6 => ?_
 refine T.region (l := [0]) rfl ?_
 refine RN.p rfl (p_lss rfl rfl rfl) ?_
 refine RN.nil ?_
 refine hK6 _ _ ?_
 refine T.seq fun K7 hK7 => ?_
 first | refine T.cond_dec rfl (fun h9 => ?_) (fun h9 => ?_) | refine T.cond rfl (fun h9 => ?_) (fun h9 => ?_)
 ·
  have hlt : i < cs.length := by omega
  have hci := hok _ (List.getElem_mem hlt)
  have htl := text_len hci.wide
  have hcd := hci.data
  have hps := pr_step hlt hq
  have hpl := pr_le cs (i + 1)
  rw [← hps, List.length_append] at hpl
  refine T.openVec 1 rfl (by omega) ?_
  rintro b6 cap6 rest6 rfl c1 c2 c3
  refine T.skip ?_
  refine hK7 _ _ ?_
  refine T.seq fun K8 hK8 => ?_
  refine T.block ?_
  refine T.seq fun K9 hK9 => ?_
  refine T.region (l := [0, 1, 2]) rfl ?_
  refine RN.p rfl (by first | exact (p_indexAddr1N rfl Tryd.underlying28 ts_40 rfl rfl (by omega)) | exact (p_indexAddr1 rfl Tryd.underlying28 ts_40 rfl rfl (by omega))) ?_
  refine RN.u rfl (q_load (v := cmV cs[i]) rfl sc_40 rfl (i := 1) rfl (cm_row hlt)) ?_
  refine RN.a rfl ?_
  refine RN.nil ?_
  refine hK9 _ _ ?_
  refine T.region (l := [0, 1, 2, 3]) rfl ?_
  refine RN.m rfl ?_
  refine RN.C [2] rfl rfl rfl rfl (c_text hci rfl rfl) (Text_spec A hA hB cs[i] hci) rfl ?_
  rintro _ _ ⟨rfl, rfl⟩
  refine RN.p rfl (p_sadd rfl rfl rfl (by simp only [List.length_cons, List.length_nil]; omega)) ?_
  refine RN.C [1] rfl rfl rfl rfl (c_call rfl rfl) (WriteS_spec b3 q (textF cs[i] ++ [10]) (by simp) (by omega)) rfl ?_
  rintro _ _ ⟨rfl, rfl⟩
  refine RN.nil ?_
  refine hK8 _ _ ?_
  refine T.region (l := [0, 1]) rfl ?_
  refine RN.p rfl (by first | exact (p_addN (b := 1) rfl rfl rfl (by omega)) | exact (p_add rfl rfl rfl (by omega))) ?_
  refine RN.m rfl ?_
  refine RN.nil ?_
  refine ⟨(i + 1, q ++ (textF cs[i] ++ [10])), ⟨hlt, hps⟩, (by show _ - (i + 1) < _ - i; omega), (LiveIs.cons rfl (LiveIs.cons rfl (LiveIs.cons rfl (LiveIs.cons rfl LiveIs.nil)))), ((Ent.pull_drop (is := [0, 1, 0, 0]) rfl).trans (Ent.cons (Ent.refl _) (Ent.cons (vec_of_row (by simp) c1 c2 c3) (Ent.refl _))))⟩
 ·
  obtain rfl : i = cs.length := by omega
  rw [List.take_length] at hq
  refine T.exit ?_
  refine Post.seq_x ?_
  refine Post.seq_x ?_
  refine Post.block_hit ?_
  refine hK3 _ _ ?_
  refine T.seq fun K10 hK10 => ?_
  refine T.region (l := [0, 1]) rfl ?_
  refine RN.C [0] rfl rfl rfl rfl (c_call rfl rfl) (StringS_spec b3 q (by rw [hq]; omega)) rfl ?_
  rintro _ _ ⟨rfl, rfl⟩
  refine RN.a rfl ?_
  refine RN.nil ?_
  refine hK10 _ _ ?_
  refine T.ret ?_
  refine bodyQ_ret [vec 40 1 v cs.length (cs.map cmV), A] (RetRun.tmp RetRun.nil) ⟨congrArg strV hq, rfl⟩ (Ent.pull_drop (is := [0, 0, 0]) rfl)

end Go.Proofs.YtokbjejbgbdkoaaDoor
namespace Go.Proofs.YtokbjejbgbdkoaaDoor
open Go Go.Sl Go.Proofs
set_option maxRecDepth 20000
open Go.Mo Go.Proofs Go.Shelf Go.RowKit Go.Evl
theorem lines_le (t : List UInt8) : (linesF t).length ≤ t.length + 1 := by
 have h := cutsF_len t
 unfold linesF
 split
 · rw [List.length_dropLast]; omega
 · exact h

theorem ScriptJoins_walk (A : Assn) (hA : Glob 1 2 A) (hB : Glob2 Tryd.prog 0 A) (haw : Ctr Tryd.prog 7 [] [A] (fun v Ps => v = .bool true ∧ Ps = [A])) (a b : List UInt8) (hal : a.length ≤ 2000000) (hbl : b.length ≤ 2000000) : Ctr Tryd.prog 4 [strV a, strV b] [A] (fun w Ps => w = .bool true ∧ Ps = [A]) := by
 refine Ctr.of_body Tryd.func4 rfl (by kernel_rfl) Tryd.ntmps4 rfl rfl (fun Fr => ?_)
 have hla := lines_le a
 have hlb := lines_le b
 refine T.seq fun K1 hK1 => ?_
 refine T.region (l := [0]) rfl ?_
 refine RN.a rfl ?_
 refine RN.nil ?_
 refine hK1 _ _ ?_
 refine T.seq fun K2 hK2 => ?_
 refine T.seq fun K3 hK3 => ?_
 refine T.region (l := [0, 1]) rfl ?_
 refine RN.C [0] rfl rfl rfl rfl (c_call rfl rfl) (haw) rfl ?_
 rintro _ _ ⟨rfl, rfl⟩
 refine RN.p rfl (by first | exact (p_not_dec rfl rfl) | exact (p_not rfl rfl)) ?_
 refine RN.nil ?_
 refine hK3 _ _ ?_
 refine T.known 15 rfl (show _ = Value.bool false from rfl) ?_
 refine T.cond_f rfl ?_
 refine T.skip ?_
 refine hK2 _ _ ?_
 refine T.seq fun K4 hK4 => ?_
 refine T.seq fun K5 hK5 => ?_
 refine T.region (l := [0, 1, 2, 3, 4, 5, 6, 7, 8, 9, 10, 11, 12, 13, 14, 15, 16, 17]) rfl ?_
 refine RN.m rfl ?_
 refine RN.p rfl (p_len_s rfl Tryd.underlying9 rfl) ?_
 refine RN.p rfl (p_gtr rfl rfl rfl) ?_
 refine RN.m rfl ?_
 first | refine RN.split_dec 19 rfl (fun h19 => ?_) (fun h19 => ?_) | refine RN.split 19 rfl (fun h19 => ?_) (fun h19 => ?_)
 ·
  refine RN.no0 rfl ?_
  refine RN.no0 rfl ?_
  refine RN.no0 rfl ?_
  refine RN.pt rfl ?_
  refine RN.m rfl ?_
  refine RN.no0 rfl ?_
  refine RN.no0 rfl ?_
  refine RN.no0 rfl ?_
  refine RN.no0 rfl ?_
  refine RN.no0 rfl ?_
  refine RN.no0 rfl ?_
  refine RN.no0 rfl ?_
  refine RN.no0 rfl ?_
  refine RN.pt rfl ?_
  refine RN.nil ?_
  refine hK5 _ _ ?_
  refine T.cond_t rfl ?_
  refine T.seq fun K6 hK6 => ?_
  refine T.region (l := [0]) rfl ?_
  refine RN.a rfl ?_
  refine RN.nil ?_
  refine hK6 _ _ ?_
  refine T.ret ?_
  refine Post.seq_r ?_
  refine bodyQ_ret [A] (RetRun.tmp RetRun.nil) ⟨rfl, rfl⟩ (Ent.pull_drop (is := [0, 0]) rfl)
 ·
  refine RN.m rfl ?_
  refine RN.p rfl (p_len_s rfl Tryd.underlying9 rfl) ?_
  refine RN.p rfl (p_gtr rfl rfl rfl) ?_
  refine RN.pf rfl ?_
  refine RN.m rfl ?_
  first | refine RN.split_dec 24 rfl (fun h24 => ?_) (fun h24 => ?_) | refine RN.split 24 rfl (fun h24 => ?_) (fun h24 => ?_)
  ·
   refine RN.no0 rfl ?_
   refine RN.no0 rfl ?_
   refine RN.no0 rfl ?_
   refine RN.no0 rfl ?_
   refine RN.no0 rfl ?_
   refine RN.no0 rfl ?_
   refine RN.no0 rfl ?_
   refine RN.no0 rfl ?_
   refine RN.pt rfl ?_
   refine RN.nil ?_
   refine hK5 _ _ ?_
   refine T.cond_t rfl ?_
   refine T.seq fun K7 hK7 => ?_
   refine T.region (l := [0]) rfl ?_
   refine RN.a rfl ?_
   refine RN.nil ?_
   refine hK7 _ _ ?_
   refine T.ret ?_
   refine Post.seq_r ?_
   refine bodyQ_ret [A] (RetRun.tmp RetRun.nil) ⟨rfl, rfl⟩ (Ent.pull_drop (is := [0, 0]) rfl)
  ·
   refine RN.m rfl ?_
   refine RN.C [] rfl rfl rfl rfl (c_call rfl rfl) (RLines_spec a (by omega)) rfl ?_
   rintro _ _ ⟨v26, rfl, hv26, rfl⟩
   refine RN.u rfl (q_len_vec rfl Tryd.underlying26 rfl (i := 0) rfl) ?_
   refine RN.m rfl ?_
   refine RN.C [] rfl rfl rfl rfl (c_call rfl rfl) (RLines_spec b (by omega)) rfl ?_
   rintro _ _ ⟨v29, rfl, hv29, rfl⟩
   refine RN.u rfl (q_len_vec rfl Tryd.underlying26 rfl (i := 0) rfl) ?_
   refine RN.p rfl (by first | exact (p_addN rfl rfl rfl (by omega)) | exact (p_add rfl rfl rfl (by omega))) ?_
   refine RN.p rfl (p_gtr rfl rfl rfl) ?_
   refine RN.pf rfl ?_
   refine RN.nil ?_
   refine hK5 _ _ ?_
   first | refine T.cond_dec rfl (fun h33 => ?_) (fun h33 => ?_) | refine T.cond rfl (fun h33 => ?_) (fun h33 => ?_)
   ·
    refine T.seq fun K8 hK8 => ?_
    refine T.region (l := [0]) rfl ?_
    refine RN.a rfl ?_
    refine RN.nil ?_
    refine hK8 _ _ ?_
    refine T.ret ?_
    refine Post.seq_r ?_
    refine bodyQ_ret [A] (RetRun.tmp RetRun.nil) ⟨rfl, rfl⟩ (Ent.pull_drop (is := [2, 2]) rfl)
   ·
    refine T.skip ?_
    refine hK4 _ _ ?_
    refine T.seq fun K9 hK9 => ?_
    refine T.region (l := [0, 1, 2, 3, 4, 5, 6, 7, 8]) rfl ?_
    refine RN.m rfl ?_
    refine RN.C [2] rfl rfl rfl rfl (c_call rfl rfl) (Parse_spec A hA hB a) rfl ?_
    rintro _ _ ⟨v5, k, n, e, rfl, hv5, hpa, rfl⟩
    refine RN.m rfl ?_
    refine RN.p rfl (p_extract rfl rfl rfl) ?_
    refine RN.p rfl (p_extract rfl rfl rfl) ?_
    refine RN.p rfl (p_extract rfl rfl rfl) ?_
    refine RN.a rfl ?_
    refine RN.a rfl ?_
    refine RN.a rfl ?_
    refine RN.nil ?_
    refine hK9 _ _ ?_
    refine T.seq fun K10 hK10 => ?_
    refine T.region (l := [0, 1, 2, 3, 4, 5, 6, 7, 8]) rfl ?_
    refine RN.m rfl ?_
    refine RN.C [1] rfl rfl rfl rfl (c_call rfl rfl) (Parse_spec A hA hB b) rfl ?_
    rintro _ _ ⟨v8, l, m, f, rfl, hv8, hpb, rfl⟩
    refine RN.m rfl ?_
    refine RN.p rfl (p_extract rfl rfl rfl) ?_
    refine RN.p rfl (p_extract rfl rfl rfl) ?_
    refine RN.p rfl (p_extract rfl rfl rfl) ?_
    refine RN.a rfl ?_
    refine RN.a rfl ?_
    refine RN.a rfl ?_
    refine RN.nil ?_
    refine hK10 _ _ ?_
    refine T.seq fun K11 hK11 => ?_
    refine T.region (l := [0, 1, 2, 3, 4, 5, 6, 7, 8, 9, 10, 11]) rfl ?_
    refine RN.m rfl ?_
    refine RN.p rfl (p_sadd rfl rfl rfl (by simp only [List.length_cons, List.length_nil]; omega)) ?_
    refine RN.m rfl ?_
    refine RN.p rfl (p_sadd rfl rfl rfl (by simp only [List.length_append, List.length_cons, List.length_nil]; omega)) ?_
    refine RN.C [1] rfl rfl rfl rfl (c_call rfl rfl) (Parse_spec A hA hB ((a ++ [10]) ++ b)) rfl ?_
    rintro _ _ ⟨v11, al, t, g, rfl, hv11, hpj, rfl⟩
    obtain ⟨j1, j2, j3⟩ := join_law hpa hpb hpj (by omega) (by omega) (by omega)
    have ka := parse_ok (by omega) hpa
    have kb := parse_ok (by omega) hpb
    have da := parse_data hpa
    have db := parse_data hpb
    have pa := pr_bound k 7000 (fun c hc => ⟨(ka c hc).wide, by have := da.2 c hc; omega⟩)
    have pb := pr_bound l 7000 (fun c hc => ⟨(kb c hc).wide, by have := db.2 c hc; omega⟩)
    have kl : ∀ c ∈ k ++ l, CmOk c := fun c hc => (List.mem_append.1 hc).elim (ka c) (kb c)
    have pl : (prF (k ++ l)).length ≤ 900000000 := by
     rw [prF_app, List.length_append]
     omega
    refine RN.m rfl ?_
    refine RN.p rfl (p_extract rfl rfl rfl) ?_
    refine RN.p rfl (p_extract rfl rfl rfl) ?_
    refine RN.p rfl (p_extract rfl rfl rfl) ?_
    refine RN.a rfl ?_
    refine RN.a rfl ?_
    refine RN.a rfl ?_
    refine RN.nil ?_
    refine hK11 _ _ ?_
    refine T.seq fun K12 hK12 => ?_
    refine T.seq fun K13 hK13 => ?_
    refine T.region (l := [0, 1]) rfl ?_
    refine RN.m rfl ?_
    refine RN.p rfl (p_neq rfl rfl rfl) ?_
    refine RN.nil ?_
    refine hK13 _ _ ?_
    first | refine T.cond_dec rfl (fun h56 => ?_) (fun h56 => ?_) | refine T.cond rfl (fun h56 => ?_) (fun h56 => ?_)
    ·
     obtain ⟨rfl, rfl, rfl⟩ : e = 3 ∧ g = 3 ∧ t = n := by
      rcases j1 with h | h
      · omega
      · exact h
     refine T.seq fun K14 hK14 => ?_
     refine T.region (l := [0, 1, 2, 3, 4, 5, 6, 7, 8, 9, 10, 11, 12]) rfl ?_
     refine RN.m rfl ?_
     refine RN.p rfl (p_eql rfl rfl rfl) ?_
     refine RN.m rfl ?_
     refine RN.known 59 rfl (show _ = Value.bool true from rfl) ?_
     refine RN.m rfl ?_
     refine RN.m rfl ?_
     refine RN.p rfl (p_eql rfl rfl rfl) ?_
     refine RN.pt rfl ?_
     refine RN.m rfl ?_
     refine RN.known 64 rfl (show _ = Value.bool true from rfl) ?_
     refine RN.m rfl ?_
     refine RN.m rfl ?_
     refine RN.p rfl (p_eql rfl rfl rfl) ?_
     refine RN.pt rfl ?_
     refine RN.a rfl ?_
     refine RN.nil ?_
     refine hK14 _ _ ?_
     refine T.ret ?_
     refine Post.seq_r ?_
     refine bodyQ_ret [A] (RetRun.tmp RetRun.nil) ⟨congrArg Value.bool (decide_eq_true rfl), rfl⟩ (Ent.pull_drop (is := [1, 5]) rfl)
    ·
     have he : e = 0 := by omega
     refine T.skip ?_
     refine hK12 _ _ ?_
     refine T.seq fun K15 hK15 => ?_
     refine T.seq fun K16 hK16 => ?_
     refine T.region (l := [0, 1]) rfl ?_
     refine RN.m rfl ?_
     refine RN.p rfl (p_neq rfl rfl rfl) ?_
     refine RN.nil ?_
     refine hK16 _ _ ?_
     first | refine T.cond_dec rfl (fun h70 => ?_) (fun h70 => ?_) | refine T.cond rfl (fun h70 => ?_) (fun h70 => ?_)
     ·
      obtain ⟨rfl, rfl, hmt⟩ : f = 3 ∧ g = 3 ∧ m ≤ t := by
       rcases j2 he with h | h
       · omega
       · exact h
      refine T.seq fun K17 hK17 => ?_
      refine T.region (l := [0, 1, 2, 3, 4, 5, 6, 7, 8, 9, 10, 11, 12]) rfl ?_
      refine RN.m rfl ?_
      refine RN.p rfl (p_eql rfl rfl rfl) ?_
      refine RN.m rfl ?_
      refine RN.known 73 rfl (show _ = Value.bool true from rfl) ?_
      refine RN.m rfl ?_
      refine RN.m rfl ?_
      refine RN.p rfl (p_eql rfl rfl rfl) ?_
      refine RN.pt rfl ?_
      refine RN.m rfl ?_
      refine RN.known 78 rfl (show _ = Value.bool true from rfl) ?_
      refine RN.m rfl ?_
      refine RN.m rfl ?_
      refine RN.p rfl (p_geq rfl rfl rfl) ?_
      refine RN.pt rfl ?_
      refine RN.a rfl ?_
      refine RN.nil ?_
      refine hK17 _ _ ?_
      refine T.ret ?_
      refine Post.seq_r ?_
      refine bodyQ_ret [A] (RetRun.tmp RetRun.nil) ⟨congrArg Value.bool (decide_eq_true (by omega)), rfl⟩ (Ent.pull_drop (is := [1, 5]) rfl)
     ·
      obtain ⟨rfl, rfl⟩ := j3 he (by omega)
      refine T.skip ?_
      refine hK15 _ _ ?_
      refine T.seq fun K18 hK18 => ?_
      refine T.seq fun K19 hK19 => ?_
      refine T.region (l := [0, 1, 2, 3, 4, 5, 6, 7, 8, 9, 10, 11]) rfl ?_
      refine RN.m rfl ?_
      refine RN.p rfl (p_neq rfl rfl rfl) ?_
      refine RN.m rfl ?_
      refine RN.known 85 rfl (show _ = Value.bool false from congrArg Value.bool (decide_eq_false (fun h => h rfl))) ?_
      refine RN.m rfl ?_
      refine RN.u rfl (q_len_vec rfl Tryd.underlying28 rfl (i := 0) rfl) ?_
      refine RN.m rfl ?_
      refine RN.u rfl (q_len_vec rfl Tryd.underlying28 rfl (i := 3) rfl) ?_
      refine RN.m rfl ?_
      refine RN.u rfl (q_len_vec rfl Tryd.underlying28 rfl (i := 2) rfl) ?_
      refine RN.p rfl (by first | exact (p_addN rfl rfl rfl (by omega)) | exact (p_add rfl rfl rfl (by omega))) ?_
      refine RN.p rfl (p_neq rfl rfl rfl) ?_
      refine RN.pf rfl ?_
      refine RN.nil ?_
      refine hK19 _ _ ?_
      refine T.known 94 rfl (show _ = Value.bool false from congrArg Value.bool (decide_eq_false (fun h => h (by rw [List.length_append])))) ?_
      refine T.cond_f rfl ?_
      refine T.skip ?_
      refine hK18 _ _ ?_
      refine T.seq fun K20 hK20 => ?_
      refine T.region (l := [0, 1, 2, 3, 4, 5, 6, 7, 8]) rfl ?_
      refine RN.m rfl ?_
      refine RN.C [0, 0] rfl rfl rfl rfl (c_call rfl rfl) (Print_spec A hA hB (k ++ l) kl pl v11) rfl ?_
      rintro _ _ ⟨rfl, rfl⟩
      refine RN.m rfl ?_
      refine RN.C [3, 1] rfl rfl rfl rfl (c_call rfl rfl) (Print_spec A hA hB k ka (by omega) v5) rfl ?_
      rintro _ _ ⟨rfl, rfl⟩
      refine RN.m rfl ?_
      refine RN.C [3, 1] rfl rfl rfl rfl (c_call rfl rfl) (Print_spec A hA hB l kb (by omega) v8) rfl ?_
      rintro _ _ ⟨rfl, rfl⟩
      refine RN.p rfl (p_sadd rfl rfl rfl (by omega)) ?_
      refine RN.p rfl (p_seql rfl rfl rfl) ?_
      refine RN.a rfl ?_
      refine RN.nil ?_
      refine hK20 _ _ ?_
      refine T.ret ?_
      refine bodyQ_ret [A] (RetRun.tmp RetRun.nil) ⟨congrArg Value.bool (decide_eq_true (prF_app k l)), rfl⟩ (Ent.pull_drop (is := [1, 5]) rfl)

end Go.Proofs.YtokbjejbgbdkoaaDoor
