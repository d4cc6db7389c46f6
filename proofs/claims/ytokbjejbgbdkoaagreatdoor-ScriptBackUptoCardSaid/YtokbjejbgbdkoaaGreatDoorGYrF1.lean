/-
 Commands told, a line each: walked.
-/
import Derived.Test.YtokbjejbgbdkoaaGreatDoorGYrE2
import Derived.Test.YtokbjejbgbdkoaaGreatDoorGModelC
set_option linter.unusedVariables false
set_option linter.unusedSimpArgs false
namespace Go.Proofs.YtokbjejbgbdkoaaGreatDoor
open Go Go.Sl Go.Proofs
set_option maxRecDepth 20000
open Go.Mo Go.Proofs Go.Shelf Go.RowKit Go.Evl
theorem pr_le (cs : List Cm) (n : Nat) : (prF (cs.take n)).length ≤ (prF cs).length := by
 have h := prF_app (cs.take n) (cs.drop n)
 rw [List.take_append_drop] at h
 rw [h, List.length_append]
 omega
theorem pr_step {cs : List Cm} {i : Nat} {q : List UInt8} (hi : i < cs.length) (h : q = prF (cs.take i)) : q ++ (textF cs[i] ++ [10]) = prF (cs.take (i + 1)) := by
 rw [h, List.take_succ_eq_append_getElem hi, prF_one]

theorem Print_spec (A : Assn) (hA : Glob 1 2 A) (hB : Glob2 Tryz.prog 0 A) (cs : List Cm) (hok : ∀ c ∈ cs, CmOk c) (hp : (prF cs).length ≤ 900000000) (v : Value) : Ctr Tryz.prog 11 [v] [vec 35 1 v cs.length (cs.map cmV), A] (fun w Ps => w = strV (prF cs) ∧ Ps = [vec 35 1 v cs.length (cs.map cmV), A]) := by
 refine Ctr.of_body Tryz.func11 rfl (by kernel_rfl) Tryz.ntmps11 rfl rfl (fun Fr => ?_)
 refine T.seq fun K1 hK1 => ?_
 refine T.region (l := [0]) rfl ?_
 refine RN.a rfl ?_
 refine RN.nil ?_
 refine hK1 _ _ ?_
 refine T.seq fun K2 hK2 => ?_
 refine T.region (l := [0]) rfl ?_
 refine RN.E rfl rfl rfl rfl (e_alloc rfl ti_70) ?_
 rintro _ _ ⟨b3, rfl, rfl⟩
 refine RN.nil ?_
 refine hK2 _ _ ?_
 refine T.seq fun K3 hK3 => ?_
 refine T.seq fun K4 hK4 => ?_
 refine T.ent (bld_new (el := 5)) ?_
 refine T.region (l := [0, 1, 2]) rfl ?_
 refine RN.m rfl ?_
 refine RN.u rfl (q_len_vec rfl Tryz.underlying23 rfl (i := 1) rfl) ?_
 refine RN.m rfl ?_
 refine RN.nil ?_
 refine hK4 _ _ ?_
 refine T.block ?_
 refine T.loop (G := Nat × List UInt8) (fun ⟨i, q⟩ => i ≤ cs.length ∧ q = prF (cs.take i)) (fun ⟨i, q⟩ => [(3, ptr b3 0), (6, v), (7, intV cs.length), (8, intV i)]) (fun ⟨i, q⟩ => [bld 70 5 b3 (q), vec 35 1 v cs.length (cs.map cmV), A, Fr]) (fun ⟨i, q⟩ => cs.length - i) (0, []) ⟨Nat.zero_le _, rfl⟩ (LiveIs.cons rfl (LiveIs.cons rfl (LiveIs.cons rfl (LiveIs.cons rfl LiveIs.nil)))) (Ent.refl _) ?_
 rintro ⟨i, q⟩ e5 ⟨hin, hq⟩
 dsimp only
 refine T.seq fun K6 hK6 => ?_
 refine T.region (l := [0]) rfl ?_
 refine RN.p rfl (p_lss rfl rfl rfl) ?_
 refine RN.nil ?_
 refine hK6 _ _ ?_
 refine T.seq fun K7 hK7 => ?_
 first | refine T.cond_dec rfl (fun h9 => ?_) (fun h9 => ?_) | refine T.cond rfl (fun h9 => ?_) (fun h9 => ?_)
 ·
  have hlt : i < cs.length := by omega
  have hci := hok _ (List.getElem_mem hlt)
  have htl := text_len hci.wide
  have hcd := hci.data
  have hps := pr_step hlt hq
  have hpl := pr_le cs (i + 1)
  rw [← hps, List.length_append] at hpl
  refine T.openVec 1 rfl (by omega) ?_
  rintro b6 cap6 rest6 rfl c1 c2 c3
  refine T.skip ?_
  refine hK7 _ _ ?_
  refine T.seq fun K8 hK8 => ?_
  refine T.block ?_
  refine T.seq fun K9 hK9 => ?_
  refine T.region (l := [0, 1, 2]) rfl ?_
  refine RN.p rfl (by first | exact (p_indexAddr1N rfl Tryz.underlying23 ts_35 rfl rfl (by omega)) | exact (p_indexAddr1 rfl Tryz.underlying23 ts_35 rfl rfl (by omega))) ?_
  refine RN.u rfl (q_load (v := cmV cs[i]) rfl sc_35 rfl (i := 1) rfl (cm_row hlt)) ?_
  refine RN.a rfl ?_
  refine RN.nil ?_
  refine hK9 _ _ ?_
  refine T.region (l := [0, 1, 2, 3]) rfl ?_
  refine RN.m rfl ?_
  refine RN.C [2] rfl rfl rfl rfl (c_text hci rfl rfl) (Text_spec A hA hB cs[i] hci) rfl ?_
  rintro _ _ ⟨rfl, rfl⟩
  refine RN.p rfl (p_sadd rfl rfl rfl (by simp only [List.length_cons, List.length_nil]; omega)) ?_
  refine RN.C [1] rfl rfl rfl rfl (c_call rfl rfl) (WriteS_spec b3 q (textF cs[i] ++ [10]) (by simp) (by omega)) rfl ?_
  rintro _ _ ⟨rfl, rfl⟩
  refine RN.nil ?_
  refine hK8 _ _ ?_
  refine T.region (l := [0, 1]) rfl ?_
  refine RN.p rfl (by first | exact (p_addN (b := 1) rfl rfl rfl (by omega)) | exact (p_add rfl rfl rfl (by omega))) ?_
  refine RN.m rfl ?_
  refine RN.nil ?_
  refine ⟨(i + 1, q ++ (textF cs[i] ++ [10])), ⟨hlt, hps⟩, (by show _ - (i + 1) < _ - i; omega), (LiveIs.cons rfl (LiveIs.cons rfl (LiveIs.cons rfl (LiveIs.cons rfl LiveIs.nil)))), ((Ent.pull_drop (is := [0, 1, 0, 0]) rfl).trans (Ent.cons (Ent.refl _) (Ent.cons (vec_of_row (by simp) c1 c2 c3) (Ent.refl _))))⟩
 ·
  obtain rfl : i = cs.length := by omega
  rw [List.take_length] at hq
  refine T.exit ?_
  refine Post.seq_x ?_
  refine Post.seq_x ?_
  refine Post.block_hit ?_
  refine hK3 _ _ ?_
  refine T.seq fun K10 hK10 => ?_
  refine T.region (l := [0, 1]) rfl ?_
  refine RN.C [0] rfl rfl rfl rfl (c_call rfl rfl) (StringS_spec b3 q (by rw [hq]; omega)) rfl ?_
  rintro _ _ ⟨rfl, rfl⟩
  refine RN.a rfl ?_
  refine RN.nil ?_
  refine hK10 _ _ ?_
  refine T.ret ?_
  refine bodyQ_ret [vec 35 1 v cs.length (cs.map cmV), A] (RetRun.tmp RetRun.nil) ⟨congrArg strV hq, rfl⟩ (Ent.pull_drop (is := [0, 0, 0]) rfl)

/-- A command by numbers, as it lies in memory. -/
def syC (x : Sy) : List Value := [iC x.k, iC x.a, iC x.b, strV x.d]
theorem sy_0 {x : Sy} (h : x.k = 0) : Value.iface 51 (.agg #[iC x.a, iC x.b]) = cmV x.cm := by
 obtain ⟨k, a, b, d⟩ := x
 subst h
 rfl
theorem sy_1 {x : Sy} (h : x.k = 1) : Value.iface 46 (.agg #[iC x.a, iC x.b, strV x.d]) = cmV x.cm := by
 obtain ⟨k, a, b, d⟩ := x
 subst h
 rfl
theorem sy_2 {x : Sy} (h : x.k = 2) : Value.iface 52 (.agg #[iC x.a, iC x.b]) = cmV x.cm := by
 obtain ⟨k, a, b, d⟩ := x
 subst h
 rfl
theorem sy_3 {x : Sy} (h : x.k = 3) : Value.iface 54 (.agg #[iC x.a]) = cmV x.cm := by
 obtain ⟨k, a, b, d⟩ := x
 subst h
 rfl
theorem sy_4 {x : Sy} (h : x.k = 4) : Value.iface 55 (.agg #[iC x.a]) = cmV x.cm := by
 obtain ⟨k, a, b, d⟩ := x
 subst h
 rfl
theorem sy_5 {x : Sy} (h : x.k = 5) : Value.iface 56 (.agg #[iC x.a]) = cmV x.cm := by
 obtain ⟨k, a, b, d⟩ := x
 subst h
 rfl
theorem sy_6 {x : Sy} (h : x.k = 6) : Value.iface 58 (.agg #[]) = cmV x.cm := by
 obtain ⟨k, a, b, d⟩ := x
 subst h
 rfl
theorem sy_7 {x : Sy} (h0 : x.k ≠ 0) (h1 : x.k ≠ 1) (h2 : x.k ≠ 2) (h3 : x.k ≠ 3) (h4 : x.k ≠ 4) (h5 : x.k ≠ 5) (h6 : x.k ≠ 6) : Value.iface 59 (.agg #[]) = cmV x.cm := by
 unfold Sy.cm
 rw [if_neg h0, if_neg h1, if_neg h2, if_neg h3, if_neg h4, if_neg h5, if_neg h6]
 rfl

theorem Cmd_spec (x : Sy) : Ctr Tryz.prog 10 [.agg (syC x).toArray] [] (fun w Ps => w = cmV x.cm ∧ Ps = []) := by
 refine Ctr.of_body Tryz.func10 rfl (by kernel_rfl) Tryz.ntmps10 rfl rfl (fun Fr => ?_)
 refine T.seq fun K1 hK1 => ?_
 refine T.region (l := [0, 1]) rfl ?_
 refine RN.E rfl rfl rfl rfl (e_box (vs := syC x) rfl rfl rfl) ?_
 rintro _ _ ⟨b1, rfl, rfl⟩
 refine RN.a rfl ?_
 refine RN.nil ?_
 refine hK1 _ _ ?_
 refine T.seq fun K2 hK2 => ?_
 refine T.seq fun K3 hK3 => ?_
 refine T.region (l := [0, 1]) rfl ?_
 refine RN.p rfl (p_fieldAddr rfl fa_42_0 rfl) ?_
 refine RN.u rfl (q_load rfl sc_3 rfl (i := 0) rfl rfl) ?_
 refine RN.nil ?_
 refine hK3 _ _ ?_
 refine T.block ?_
 refine T.seq fun K4 hK4 => ?_
 refine T.region (l := [0, 1]) rfl ?_
 refine RN.p rfl (p_eql rfl rfl rfl) ?_
 refine RN.a rfl ?_
 refine RN.nil ?_
 refine hK4 _ _ ?_
 first | refine T.cond_dec rfl (fun h5 => ?_) (fun h5 => ?_) | refine T.cond rfl (fun h5 => ?_) (fun h5 => ?_)
 ·
  refine T.seq fun K5 hK5 => ?_
  refine T.region (l := [0, 1, 2, 3, 4, 5, 6]) rfl ?_
  refine RN.p rfl (p_fieldAddr rfl fa_42_1 rfl) ?_
  refine RN.u rfl (q_load rfl sc_3 rfl (i := 0) rfl rfl) ?_
  refine RN.p rfl (p_fieldAddr rfl fa_42_2 rfl) ?_
  refine RN.u rfl (q_load rfl sc_3 rfl (i := 0) rfl rfl) ?_
  refine RN.p rfl (p_build rfl pl_51 ti_51 (by dsimp [layAll, lay]; rfl)) ?_
  refine RN.p rfl (p_makeIface rfl Tryz.underlying51 rfl) ?_
  refine RN.a rfl ?_
  refine RN.nil ?_
  refine hK5 _ _ ?_
  refine T.ret ?_
  refine Post.block_r ?_
  refine Post.seq_r ?_
  refine bodyQ_ret [] (RetRun.tmp RetRun.nil) ⟨sy_0 h5, rfl⟩ (Ent.pull_drop (is := [1]) rfl)
 ·
  refine T.seq fun K6 hK6 => ?_
  refine T.region (l := [0, 1]) rfl ?_
  refine RN.p rfl (p_eql rfl rfl rfl) ?_
  refine RN.a rfl ?_
  refine RN.nil ?_
  refine hK6 _ _ ?_
  first | refine T.cond_dec rfl (fun h13 => ?_) (fun h13 => ?_) | refine T.cond rfl (fun h13 => ?_) (fun h13 => ?_)
  ·
   refine T.seq fun K7 hK7 => ?_
   refine T.region (l := [0, 1, 2, 3, 4, 5, 6, 7, 8]) rfl ?_
   refine RN.p rfl (p_fieldAddr rfl fa_42_1 rfl) ?_
   refine RN.u rfl (q_load rfl sc_3 rfl (i := 0) rfl rfl) ?_
   refine RN.p rfl (p_fieldAddr rfl fa_42_2 rfl) ?_
   refine RN.u rfl (q_load rfl sc_3 rfl (i := 0) rfl rfl) ?_
   refine RN.p rfl (p_fieldAddr rfl fa_42_3 rfl) ?_
   refine RN.u rfl (q_load rfl sc_9 rfl (i := 0) rfl rfl) ?_
   refine RN.p rfl (p_build rfl pl_46 ti_46 (by dsimp [layAll, lay]; rfl)) ?_
   refine RN.p rfl (p_makeIface rfl Tryz.underlying46 rfl) ?_
   refine RN.a rfl ?_
   refine RN.nil ?_
   refine hK7 _ _ ?_
   refine T.ret ?_
   refine Post.block_r ?_
   refine Post.seq_r ?_
   refine bodyQ_ret [] (RetRun.tmp RetRun.nil) ⟨sy_1 h13, rfl⟩ (Ent.pull_drop (is := [1]) rfl)
  ·
   refine T.seq fun K8 hK8 => ?_
   refine T.region (l := [0, 1]) rfl ?_
   refine RN.p rfl (p_eql rfl rfl rfl) ?_
   refine RN.a rfl ?_
   refine RN.nil ?_
   refine hK8 _ _ ?_
   first | refine T.cond_dec rfl (fun h23 => ?_) (fun h23 => ?_) | refine T.cond rfl (fun h23 => ?_) (fun h23 => ?_)
   ·
    refine T.seq fun K9 hK9 => ?_
    refine T.region (l := [0, 1, 2, 3, 4, 5, 6]) rfl ?_
    refine RN.p rfl (p_fieldAddr rfl fa_42_1 rfl) ?_
    refine RN.u rfl (q_load rfl sc_3 rfl (i := 0) rfl rfl) ?_
    refine RN.p rfl (p_fieldAddr rfl fa_42_2 rfl) ?_
    refine RN.u rfl (q_load rfl sc_3 rfl (i := 0) rfl rfl) ?_
    refine RN.p rfl (p_build rfl pl_52 ti_52 (by dsimp [layAll, lay]; rfl)) ?_
    refine RN.p rfl (p_makeIface rfl Tryz.underlying52 rfl) ?_
    refine RN.a rfl ?_
    refine RN.nil ?_
    refine hK9 _ _ ?_
    refine T.ret ?_
    refine Post.block_r ?_
    refine Post.seq_r ?_
    refine bodyQ_ret [] (RetRun.tmp RetRun.nil) ⟨sy_2 h23, rfl⟩ (Ent.pull_drop (is := [1]) rfl)
   ·
    refine T.seq fun K10 hK10 => ?_
    refine T.region (l := [0, 1]) rfl ?_
    refine RN.p rfl (p_eql rfl rfl rfl) ?_
    refine RN.a rfl ?_
    refine RN.nil ?_
    refine hK10 _ _ ?_
    first | refine T.cond_dec rfl (fun h31 => ?_) (fun h31 => ?_) | refine T.cond rfl (fun h31 => ?_) (fun h31 => ?_)
    ·
     refine T.seq fun K11 hK11 => ?_
     refine T.region (l := [0, 1, 2, 3, 4]) rfl ?_
     refine RN.p rfl (p_fieldAddr rfl fa_42_1 rfl) ?_
     refine RN.u rfl (q_load rfl sc_3 rfl (i := 0) rfl rfl) ?_
     refine RN.p rfl (p_build rfl pl_54 ti_54 (by dsimp [layAll, lay]; rfl)) ?_
     refine RN.p rfl (p_makeIface rfl Tryz.underlying54 rfl) ?_
     refine RN.a rfl ?_
     refine RN.nil ?_
     refine hK11 _ _ ?_
     refine T.ret ?_
     refine Post.block_r ?_
     refine Post.seq_r ?_
     refine bodyQ_ret [] (RetRun.tmp RetRun.nil) ⟨sy_3 h31, rfl⟩ (Ent.pull_drop (is := [1]) rfl)
    ·
     refine T.seq fun K12 hK12 => ?_
     refine T.region (l := [0, 1]) rfl ?_
     refine RN.p rfl (p_eql rfl rfl rfl) ?_
     refine RN.a rfl ?_
     refine RN.nil ?_
     refine hK12 _ _ ?_
     first | refine T.cond_dec rfl (fun h37 => ?_) (fun h37 => ?_) | refine T.cond rfl (fun h37 => ?_) (fun h37 => ?_)
     ·
      refine T.seq fun K13 hK13 => ?_
      refine T.region (l := [0, 1, 2, 3, 4]) rfl ?_
      refine RN.p rfl (p_fieldAddr rfl fa_42_1 rfl) ?_
      refine RN.u rfl (q_load rfl sc_3 rfl (i := 0) rfl rfl) ?_
      refine RN.p rfl (p_build rfl pl_55 ti_55 (by dsimp [layAll, lay]; rfl)) ?_
      refine RN.p rfl (p_makeIface rfl Tryz.underlying55 rfl) ?_
      refine RN.a rfl ?_
      refine RN.nil ?_
      refine hK13 _ _ ?_
      refine T.ret ?_
      refine Post.block_r ?_
      refine Post.seq_r ?_
      refine bodyQ_ret [] (RetRun.tmp RetRun.nil) ⟨sy_4 h37, rfl⟩ (Ent.pull_drop (is := [1]) rfl)
     ·
      refine T.seq fun K14 hK14 => ?_
      refine T.region (l := [0, 1]) rfl ?_
      refine RN.p rfl (p_eql rfl rfl rfl) ?_
      refine RN.a rfl ?_
      refine RN.nil ?_
      refine hK14 _ _ ?_
      first | refine T.cond_dec rfl (fun h43 => ?_) (fun h43 => ?_) | refine T.cond rfl (fun h43 => ?_) (fun h43 => ?_)
      ·
       refine T.seq fun K15 hK15 => ?_
       refine T.region (l := [0, 1, 2, 3, 4]) rfl ?_
       refine RN.p rfl (p_fieldAddr rfl fa_42_1 rfl) ?_
       refine RN.u rfl (q_load rfl sc_3 rfl (i := 0) rfl rfl) ?_
       refine RN.p rfl (p_build rfl pl_56 ti_56 (by dsimp [layAll, lay]; rfl)) ?_
       refine RN.p rfl (p_makeIface rfl Tryz.underlying56 rfl) ?_
       refine RN.a rfl ?_
       refine RN.nil ?_
       refine hK15 _ _ ?_
       refine T.ret ?_
       refine Post.block_r ?_
       refine Post.seq_r ?_
       refine bodyQ_ret [] (RetRun.tmp RetRun.nil) ⟨sy_5 h43, rfl⟩ (Ent.pull_drop (is := [1]) rfl)
      ·
       refine T.seq fun K16 hK16 => ?_
       refine T.region (l := [0, 1]) rfl ?_
       refine RN.p rfl (p_eql rfl rfl rfl) ?_
       refine RN.a rfl ?_
       refine RN.nil ?_
       refine hK16 _ _ ?_
       first | refine T.cond_dec rfl (fun h49 => ?_) (fun h49 => ?_) | refine T.cond rfl (fun h49 => ?_) (fun h49 => ?_)
       ·
        refine T.seq fun K17 hK17 => ?_
        refine T.region (l := [0, 1, 2]) rfl ?_
        refine RN.p rfl (p_build rfl pl_58 ti_58 (by dsimp [layAll, lay]; rfl)) ?_
        refine RN.p rfl (p_makeIface rfl Tryz.underlying58 rfl) ?_
        refine RN.a rfl ?_
        refine RN.nil ?_
        refine hK17 _ _ ?_
        refine T.ret ?_
        refine Post.block_r ?_
        refine Post.seq_r ?_
        refine bodyQ_ret [] (RetRun.tmp RetRun.nil) ⟨sy_6 h49, rfl⟩ (Ent.pull_drop (is := [1]) rfl)
       ·
        refine T.skip ?_
        refine hK2 _ _ ?_
        refine T.seq fun K18 hK18 => ?_
        refine T.region (l := [0, 1, 2]) rfl ?_
        refine RN.p rfl (p_build rfl pl_59 ti_59 (by dsimp [layAll, lay]; rfl)) ?_
        refine RN.p rfl (p_makeIface rfl Tryz.underlying59 rfl) ?_
        refine RN.a rfl ?_
        refine RN.nil ?_
        refine hK18 _ _ ?_
        refine T.ret ?_
        refine bodyQ_ret [] (RetRun.tmp RetRun.nil) ⟨sy_7 h5 h13 h23 h31 h37 h43 h49, rfl⟩ (Ent.pull_drop (is := [1]) rfl)

end Go.Proofs.YtokbjejbgbdkoaaGreatDoor
namespace Go.Proofs.YtokbjejbgbdkoaaGreatDoor
open Go Go.Sl Go.Proofs
set_option maxRecDepth 20000
open Go.Mo Go.Proofs Go.Shelf Go.RowKit Go.Evl
section
variable {P : Program} {e : Env} {o : Oper} {Rs : List Assn}
theorem q_loadOA {A : Assn} {t : TypeId} {x : Operand} {b off k i sz : Nat} {vs us : List Value} (hat : Ent A (cellsAt b off vs)) (hop : o.op = .load t x) (ht : IsAgg P t) (hsz : TySize P t sz) (hx : ev e x = ptr b (off + k)) (hn : nth Rs i = some A) (hl : k + sz ≤ vs.length) (hu : (vs.drop k).take sz = us) : QRun P e Rs o (.agg us.toArray) :=
 QRun.ent ((Ent.perm (perm_nth hn)).trans ((Ent.head _ _).trans (hat.trans Ent.one))) (q_loadCA hop ht hsz hx (i := 0) rfl hl hu)
theorem q_load1OA {A : Assn} {t : TypeId} {x : Operand} {b off i : Nat} (k : Nat) {vs : List Value} {v : Value} (hat : Ent A (cellsAt b off vs)) (hop : o.op = .load t x) (ht : Scalar P t) (hx : ev e x = ptr b (off + k)) (hn : nth Rs i = some A) (hv : vs[k]? = some v) : QRun P e Rs o v :=
 QRun.ent ((Ent.perm (perm_nth hn)).trans ((Ent.head _ _).trans (hat.trans Ent.one))) (q_load1C hop ht hx (i := 0) rfl hv)
end
theorem sy_len : ∀ xs : List Sy, ((xs.map syC).flatten).length = xs.length * 4
 | [] => rfl
 | x :: xs => by
  rw [List.map_cons, List.flatten_cons, List.length_append, sy_len xs, List.length_cons]
  show 4 + _ = _
  omega
theorem sy_at : ∀ {xs : List Sy} {i : Nat} (hi : i < xs.length) (j : Nat), j < 4 → ((xs.map syC).flatten)[i * 4 + j]? = (syC xs[i])[j]?
 | [], _, hi, _, _ => absurd hi (Nat.not_lt_zero _)
 | x :: xs, 0, _, j, hj => by
  rw [List.map_cons, List.flatten_cons, Nat.zero_mul, Nat.zero_add, List.getElem?_append_left (by show j < 4; exact hj)]
  rfl
 | x :: xs, i + 1, hi, j, hj => by
  have h4 : (syC x).length = 4 := rfl
  rw [List.map_cons, List.flatten_cons, List.getElem?_append_right (by rw [h4]; omega), h4, show (i + 1) * 4 + j - 4 = i * 4 + j from by omega]
  exact sy_at (Nat.lt_of_succ_lt_succ hi) j hj
theorem sy_row {xs : List Sy} {i : Nat} (hi : i < xs.length) : (((xs.map syC).flatten).drop (i * 4)).take 4 = syC xs[i] := by
 apply List.ext_getElem?
 intro j
 rw [List.getElem?_take]
 split
 ·
  rename_i hj
  rw [List.getElem?_drop]
  exact sy_at hi j hj
 ·
  rename_i hj
  exact (List.getElem?_eq_none (by show 4 ≤ j; omega)).symm
theorem cm_last {acc : List Cm} {c : Cm} {rest : List Value} {i : Nat} (h : acc.length = i) : ((acc.map cmV ++ [cmV c]) ++ rest)[0 + i]? = some (cmV c) := by
 subst h
 simp
theorem pr_snoc (acc : List Cm) (c : Cm) : (prF acc ++ textF c) ++ [10] = prF (acc ++ [c]) := by rw [prF_one, List.append_assoc]
theorem pr_len : ∀ (xs : List Sy), (∀ x ∈ xs, SyOk x) → (prF (xs.map Sy.cm)).length ≤ 121000 * xs.length
 | [], _ => Nat.zero_le _
 | x :: xs, h => by
  have h1 := h x (List.mem_cons_self ..)
  have ih := pr_len xs fun y hy => h y (List.mem_cons_of_mem _ hy)
  have h2 := text_len (x.cmOk h1).wide
  have h3 := x.cm_d
  have h4 := h1.d
  have e : prF ((x :: xs).map Sy.cm) = (textF x.cm ++ [10]) ++ prF (xs.map Sy.cm) := rfl
  rw [e]
  simp only [List.length_append, List.length_cons, List.length_nil]
  omega
theorem acc_step {xs : List Sy} {acc : List Cm} {i : Nat} (hi : i < xs.length) (h : acc = (xs.take i).map Sy.cm) : acc ++ [xs[i].cm] = (xs.take (i + 1)).map Sy.cm := by
 rw [h, List.take_succ_eq_append_getElem hi, List.map_append]
 rfl
theorem ok_step {xs : List Sy} {i : Nat} (hi : i < xs.length) (h : ∀ x ∈ xs.take i, SyOk x) (hx : SyOk xs[i]) : ∀ x ∈ xs.take (i + 1), SyOk x := by
 intro x hm
 rw [List.take_succ_eq_append_getElem hi] at hm
 rcases List.mem_append.1 hm with hm | hm
 · exact h x hm
 · rw [List.mem_singleton.1 hm]; exact hx
theorem one_at {l : List UInt8} {j : Nat} (h : j < l.length) : (l.take (j + 1)).drop j = [l[j]] := by
 rw [List.take_succ_eq_append_getElem h, List.drop_append, List.drop_eq_nil_of_le (by rw [List.length_take]; omega), List.length_take, Nat.min_eq_left (by omega), Nat.sub_self]
 rfl
theorem nl_step {l g : List UInt8} {j : Nat} (h : j < l.length) (hg : NoNl g) (hn : (l[j].toNat : Int) ≠ 10) : NoNl (g ++ (l.take (j + 1)).drop j) := by
 rw [one_at h]
 refine hg.app fun c hc => ?_
 rw [List.mem_singleton.1 hc]
 intro e
 rw [e] at hn
 exact hn rfl

theorem ScriptBack_walk (A : Assn) (hA : Glob 1 2 A) (hB : Glob2 Tryz.prog 0 A) (haw : Ctr Tryz.prog 5 [] [A] (fun v Ps => v = .bool true ∧ Ps = [A])) (xs : List Sy) (q : Option Addr) (cap : Nat) (gap : List UInt8) (hw : ∀ x ∈ xs, SyW x) (hq : 0 < xs.length → ∃ b off, q = some ⟨b, off, none⟩ ∧ Ent A (cellsAt b off ((xs.map syC).flatten))) (hlen : xs.length ≤ 2000000) (hgl : gap.length ≤ 2000000) : Ctr Tryz.prog 4 [.slice q xs.length cap, strV gap] [A] (fun w Ps => w = .bool true ∧ Ps = [A]) := by
 refine Ctr.of_body Tryz.func4 rfl (by kernel_rfl) Tryz.ntmps4 rfl rfl (fun Fr => ?_)
 refine T.seq fun K1 hK1 => ?_
 refine T.region (l := [0]) rfl ?_
 refine RN.a rfl ?_
 refine RN.nil ?_
 refine hK1 _ _ ?_
 refine T.seq fun K2 hK2 => ?_
 refine T.seq fun K3 hK3 => ?_
 refine T.region (l := [0, 1]) rfl ?_
 refine RN.C [0] rfl rfl rfl rfl (c_call rfl rfl) (haw) rfl ?_
 rintro _ _ ⟨rfl, rfl⟩
 refine RN.p rfl (by first | exact (p_not_dec rfl rfl) | exact (p_not rfl rfl)) ?_
 refine RN.nil ?_
 refine hK3 _ _ ?_
 refine T.known 27 rfl (show _ = Value.bool false from rfl) ?_
 refine T.cond_f rfl ?_
 refine T.skip ?_
 refine hK2 _ _ ?_
 refine T.seq fun K4 hK4 => ?_
 refine T.region (l := [0]) rfl ?_
 refine RN.a rfl ?_
 refine RN.nil ?_
 refine hK4 _ _ ?_
 refine T.seq fun K5 hK5 => ?_
 refine T.region (l := [0]) rfl ?_
 refine RN.a rfl ?_
 refine RN.nil ?_
 refine hK5 _ _ ?_
 refine T.seq fun K6 hK6 => ?_
 refine T.seq fun K7 hK7 => ?_
 refine T.region (l := [0]) rfl ?_
 refine RN.a rfl ?_
 refine RN.nil ?_
 refine hK7 _ _ ?_
 refine T.block ?_
 refine T.loop (G := Nat × List Cm × Value) (fun ⟨i, acc, v5⟩ => i ≤ xs.length ∧ v5.oneCell' = true ∧ acc = (xs.take i).map Sy.cm ∧ (∀ x ∈ xs.take i, SyOk x) ∧ (0 < i → xs.length ≤ 900)) (fun ⟨i, acc, v5⟩ => [(0, .slice q xs.length cap), (1, strV gap), (5, v5), (6, strV (prF acc)), (7, intV i)]) (fun ⟨i, acc, v5⟩ => [vec 35 1 v5 acc.length (acc.map cmV), A, Fr]) (fun ⟨i, acc, v5⟩ => xs.length - i) (0, [], .slice none 0 0) ⟨Nat.zero_le _, rfl, by simp, by simp, fun h => absurd h (Nat.lt_irrefl 0)⟩ (LiveIs.cons rfl (LiveIs.cons rfl (LiveIs.cons rfl (LiveIs.cons rfl (LiveIs.cons rfl LiveIs.nil))))) Ent.vec_nil' ?_
 rintro ⟨i, acc, v5⟩ e8 ⟨hin, hv5, hacc, hok, h9⟩
 dsimp only
 refine T.seq fun K9 hK9 => ?_
 refine T.seq fun K10 hK10 => ?_
 refine T.region (l := [0, 1, 2, 3]) rfl ?_
 refine RN.m rfl ?_
 refine RN.m rfl ?_
 refine RN.p rfl (p_len rfl Tryz.underlying39 rfl) ?_
 refine RN.p rfl (p_lss rfl rfl rfl) ?_
 refine RN.nil ?_
 refine hK10 _ _ ?_
 first | refine T.cond_dec rfl (fun h31 => ?_) (fun h31 => ?_) | refine T.cond rfl (fun h31 => ?_) (fun h31 => ?_)
 ·
  have hlt : i < xs.length := by omega
  obtain ⟨b, off, rfl, hat⟩ := hq (by omega)
  have hxi := hw _ (List.getElem_mem hlt)
  have hal : acc.length = i := by rw [hacc, List.length_map, List.length_take]; omega
  have hi9 : i ≤ 900 := by
   rcases Nat.eq_zero_or_pos i with h | h
   · omega
   · have := h9 h; omega
  have hpl : (prF acc).length ≤ 121000 * i := by
   have := pr_len _ hok
   rw [← hacc, List.length_take] at this
   omega
  have htl := text_len (Sy.cmW hxi)
  have hcd := xs[i].cm_d
  have hxd := hxi.d
  have hcl := sy_len xs
  refine T.skip ?_
  refine hK9 _ _ ?_
  refine T.seq fun K11 hK11 => ?_
  refine T.block ?_
  refine T.seq fun K12 hK12 => ?_
  refine T.region (l := [0, 1, 2, 3, 4, 5, 6, 7, 8]) rfl ?_
  refine RN.m rfl ?_
  refine RN.m rfl ?_
  refine RN.m rfl ?_
  refine RN.p rfl (by first | exact (p_indexAddrN rfl Tryz.underlying39 ts_42 rfl rfl (by omega)) | exact (p_indexAddr rfl Tryz.underlying39 ts_42 rfl rfl (by omega))) ?_
  refine RN.u rfl (q_loadOA (k := i * 4) hat rfl ag_42 ts_42 rfl (i := 1) rfl (by rw [hcl]; omega) (sy_row hlt)) ?_
  refine RN.C [] rfl rfl rfl rfl (c_call rfl rfl) (Cmd_spec xs[i]) rfl ?_
  rintro _ _ ⟨rfl, rfl⟩
  refine RN.E rfl rfl rfl rfl (e_buildSlice1 (v := cmV xs[i].cm) rfl Tryz.underlying23 ti_35 rfl rfl (cmV_one _)) ?_
  rintro _ _ ⟨b40, rfl, rfl⟩
  refine RN.E rfl rfl rfl rfl (e_append rfl Tryz.underlying23 ni_23 ti_35 rfl rfl (i := 1) rfl (src_full (i := 0) rfl rfl) (one_one (cmV_one _)) (by omega)) ?_
  rintro v41 _ ⟨hv41, rfl⟩
  refine RN.a rfl ?_
  refine RN.nil ?_
  refine hK12 _ _ ?_
  refine T.seq fun K13 hK13 => ?_
  refine T.openVec 1 rfl (by omega) ?_
  rintro b5 cap5 rest5 rfl c1 c2 c3
  refine T.region (l := [0, 1, 2, 3, 4, 5, 6, 7, 8, 9, 10]) rfl ?_
  refine RN.m rfl ?_
  refine RN.m rfl ?_
  refine RN.p rfl (by first | exact (p_indexAddr1N rfl Tryz.underlying23 ts_35 rfl rfl (by omega)) | exact (p_indexAddr1 rfl Tryz.underlying23 ts_35 rfl rfl (by omega))) ?_
  refine RN.u rfl (q_load (v := cmV xs[i].cm) rfl sc_35 rfl (i := 1) rfl (cm_last hal)) ?_
  refine RN.C [] rfl rfl rfl rfl (c_call rfl rfl) (Of_spec xs[i].cm (Sy.cmW hxi)) rfl ?_
  rintro _ _ ⟨rfl, rfl⟩
  refine RN.m rfl ?_
  refine RN.p rfl (p_extract rfl rfl rfl) ?_
  refine RN.p rfl (p_extract rfl rfl rfl) ?_
  refine RN.E rfl rfl rfl rfl (e_alloc rfl ti_31) ?_
  rintro _ _ ⟨b8, rfl, rfl⟩
  refine RN.EN rfl rfl rfl (e_storeA (vs := rcC xs[i].cm) rfl ts_31 rfl rfl rfl rc_one (i := 0) rfl (Nat.le_refl 4)) ?_
  rintro _ _ ⟨rfl, rfl⟩
  refine RN.a rfl ?_
  refine RN.nil ?_
  refine hK13 _ _ ?_
  refine T.seq fun K14 hK14 => ?_
  refine T.region (l := [0, 1, 2, 3, 4, 5]) rfl ?_
  refine RN.m rfl ?_
  refine RN.u rfl (q_loadA (vs := rcC xs[i].cm) rfl ag_31 ts_31 rfl (i := 0) rfl (Nat.le_refl 4) rfl) ?_
  refine RN.C [] rfl rfl rfl rfl (c_call rfl rfl) (RText_spec xs[i].cm (Sy.cmW hxi)) rfl ?_
  rintro _ _ ⟨rfl, rfl⟩
  refine RN.p rfl (p_sadd rfl rfl rfl (by omega)) ?_
  refine RN.p rfl (p_sadd rfl rfl rfl (by simp only [List.length_append, List.length_cons, List.length_nil]; omega)) ?_
  refine RN.a rfl ?_
  refine RN.nil ?_
  refine hK14 _ _ ?_
  refine T.seq fun K15 hK15 => ?_
  refine T.seq fun K16 hK16 => ?_
  refine T.region (l := [0, 1, 2, 3, 4, 5, 6, 7, 8, 9, 10, 11]) rfl ?_
  refine RN.m rfl ?_
  refine RN.m rfl ?_
  refine RN.p rfl (by first | exact (p_indexAddrN rfl Tryz.underlying39 ts_42 rfl rfl (by omega)) | exact (p_indexAddr rfl Tryz.underlying39 ts_42 rfl rfl (by omega))) ?_
  refine RN.p rfl (p_fieldAddr rfl fa_42_3 rfl) ?_
  refine RN.u rfl (q_load1OA (i * 4 + 3) (v := strV xs[i].d) hat rfl sc_9 rfl (i := 3) rfl (sy_at hlt 3 (by omega))) ?_
  refine RN.p rfl (p_len_s rfl Tryz.underlying9 rfl) ?_
  refine RN.p rfl (p_gtr rfl rfl rfl) ?_
  refine RN.m rfl ?_
  first | refine RN.split_dec 62 rfl (fun h62 => ?_) (fun h62 => ?_) | refine RN.split 62 rfl (fun h62 => ?_) (fun h62 => ?_)
  ·
   refine RN.no0 rfl ?_
   refine RN.no0 rfl ?_
   refine RN.no0 rfl ?_
   refine RN.pt rfl ?_
   refine RN.nil ?_
   refine hK16 _ _ ?_
   refine T.cond_t rfl ?_
   refine T.seq fun K17 hK17 => ?_
   refine T.region (l := [0]) rfl ?_
   refine RN.a rfl ?_
   refine RN.nil ?_
   refine hK17 _ _ ?_
   refine T.ret ?_
   refine Post.seq_r ?_
   refine Post.block_r ?_
   refine Post.seq_r ?_
   refine Post.seq_r ?_
   refine Post.block_r ?_
   refine Post.seq_r ?_
   refine bodyQ_ret [A] (RetRun.tmp RetRun.nil) ⟨rfl, rfl⟩ (Ent.pull_drop (is := [3, 3]) rfl)
  ·
   refine RN.m rfl ?_
   refine RN.p rfl (p_len rfl Tryz.underlying39 rfl) ?_
   refine RN.p rfl (p_gtr rfl rfl rfl) ?_
   refine RN.pf rfl ?_
   refine RN.nil ?_
   refine hK16 _ _ ?_
   first | refine T.cond_dec rfl (fun h66 => ?_) (fun h66 => ?_) | refine T.cond rfl (fun h66 => ?_) (fun h66 => ?_)
   ·
    refine T.seq fun K18 hK18 => ?_
    refine T.region (l := [0]) rfl ?_
    refine RN.a rfl ?_
    refine RN.nil ?_
    refine hK18 _ _ ?_
    refine T.ret ?_
    refine Post.seq_r ?_
    refine Post.block_r ?_
    refine Post.seq_r ?_
    refine Post.seq_r ?_
    refine Post.block_r ?_
    refine Post.seq_r ?_
    refine bodyQ_ret [A] (RetRun.tmp RetRun.nil) ⟨rfl, rfl⟩ (Ent.pull_drop (is := [3, 3]) rfl)
   ·
    refine T.skip ?_
    refine hK15 _ _ ?_
    refine T.seq fun K19 hK19 => ?_
    refine T.region (l := [0, 1, 2, 3, 4, 5, 6, 7, 8, 9, 10, 11, 12, 13, 14, 15, 16, 17, 18, 19, 20, 21, 22, 23, 24, 25, 26, 27, 28, 29]) rfl ?_
    refine RN.m rfl ?_
    refine RN.m rfl ?_
    refine RN.p rfl (by first | exact (p_indexAddrN rfl Tryz.underlying39 ts_42 rfl rfl (by omega)) | exact (p_indexAddr rfl Tryz.underlying39 ts_42 rfl rfl (by omega))) ?_
    refine RN.p rfl (p_fieldAddr rfl fa_42_1 rfl) ?_
    refine RN.u rfl (q_load1OA (i * 4 + 1) (v := iC xs[i].a) hat rfl sc_3 rfl (i := 3) rfl (sy_at hlt 1 (by omega))) ?_
    refine RN.p rfl (p_lss rfl rfl rfl) ?_
    refine RN.m rfl ?_
    first | refine RN.split_dec 73 rfl (fun h73 => ?_) (fun h73 => ?_) | refine RN.split 73 rfl (fun h73 => ?_) (fun h73 => ?_)
    ·
     refine RN.no0 rfl ?_
     refine RN.no0 rfl ?_
     refine RN.no0 rfl ?_
     refine RN.no0 rfl ?_
     refine RN.no0 rfl ?_
     refine RN.no0 rfl ?_
     refine RN.pt rfl ?_
     refine RN.m rfl ?_
     refine RN.no0 rfl ?_
     refine RN.no0 rfl ?_
     refine RN.no0 rfl ?_
     refine RN.no0 rfl ?_
     refine RN.no0 rfl ?_
     refine RN.no0 rfl ?_
     refine RN.pt rfl ?_
     refine RN.m rfl ?_
     refine RN.no0 rfl ?_
     refine RN.no0 rfl ?_
     refine RN.no0 rfl ?_
     refine RN.no0 rfl ?_
     refine RN.no0 rfl ?_
     refine RN.no0 rfl ?_
     refine RN.pt rfl ?_
     refine RN.nil ?_
     refine hK19 _ _ ?_
     refine T.cond_t rfl ?_
     refine T.seq fun K20 hK20 => ?_
     refine T.region (l := [0]) rfl ?_
     refine RN.a rfl ?_
     refine RN.nil ?_
     refine hK20 _ _ ?_
     refine T.ret ?_
     refine Post.block_r ?_
     refine Post.seq_r ?_
     refine Post.seq_r ?_
     refine Post.block_r ?_
     refine Post.seq_r ?_
     refine bodyQ_ret [A] (RetRun.tmp RetRun.nil) ⟨rfl, rfl⟩ (Ent.pull_drop (is := [3, 3]) rfl)
    ·
     refine RN.m rfl ?_
     refine RN.m rfl ?_
     refine RN.p rfl (by first | exact (p_indexAddrN rfl Tryz.underlying39 ts_42 rfl rfl (by omega)) | exact (p_indexAddr rfl Tryz.underlying39 ts_42 rfl rfl (by omega))) ?_
     refine RN.p rfl (p_fieldAddr rfl fa_42_1 rfl) ?_
     refine RN.u rfl (q_load1OA (i * 4 + 1) (v := iC xs[i].a) hat rfl sc_3 rfl (i := 3) rfl (sy_at hlt 1 (by omega))) ?_
     refine RN.p rfl (p_gtr rfl rfl rfl) ?_
     refine RN.pf rfl ?_
     refine RN.m rfl ?_
     first | refine RN.split_dec 81 rfl (fun h81 => ?_) (fun h81 => ?_) | refine RN.split 81 rfl (fun h81 => ?_) (fun h81 => ?_)
     ·
      refine RN.no0 rfl ?_
      refine RN.no0 rfl ?_
      refine RN.no0 rfl ?_
      refine RN.no0 rfl ?_
      refine RN.no0 rfl ?_
      refine RN.no0 rfl ?_
      refine RN.pt rfl ?_
      refine RN.m rfl ?_
      refine RN.no0 rfl ?_
      refine RN.no0 rfl ?_
      refine RN.no0 rfl ?_
      refine RN.no0 rfl ?_
      refine RN.no0 rfl ?_
      refine RN.no0 rfl ?_
      refine RN.pt rfl ?_
      refine RN.nil ?_
      refine hK19 _ _ ?_
      refine T.cond_t rfl ?_
      refine T.seq fun K21 hK21 => ?_
      refine T.region (l := [0]) rfl ?_
      refine RN.a rfl ?_
      refine RN.nil ?_
      refine hK21 _ _ ?_
      refine T.ret ?_
      refine Post.block_r ?_
      refine Post.seq_r ?_
      refine Post.seq_r ?_
      refine Post.block_r ?_
      refine Post.seq_r ?_
      refine bodyQ_ret [A] (RetRun.tmp RetRun.nil) ⟨rfl, rfl⟩ (Ent.pull_drop (is := [3, 3]) rfl)
     ·
      refine RN.m rfl ?_
      refine RN.m rfl ?_
      refine RN.p rfl (by first | exact (p_indexAddrN rfl Tryz.underlying39 ts_42 rfl rfl (by omega)) | exact (p_indexAddr rfl Tryz.underlying39 ts_42 rfl rfl (by omega))) ?_
      refine RN.p rfl (p_fieldAddr rfl fa_42_2 rfl) ?_
      refine RN.u rfl (q_load1OA (i * 4 + 2) (v := iC xs[i].b) hat rfl sc_3 rfl (i := 3) rfl (sy_at hlt 2 (by omega))) ?_
      refine RN.p rfl (p_lss rfl rfl rfl) ?_
      refine RN.pf rfl ?_
      refine RN.m rfl ?_
      first | refine RN.split_dec 89 rfl (fun h89 => ?_) (fun h89 => ?_) | refine RN.split 89 rfl (fun h89 => ?_) (fun h89 => ?_)
      ·
       refine RN.no0 rfl ?_
       refine RN.no0 rfl ?_
       refine RN.no0 rfl ?_
       refine RN.no0 rfl ?_
       refine RN.no0 rfl ?_
       refine RN.no0 rfl ?_
       refine RN.pt rfl ?_
       refine RN.nil ?_
       refine hK19 _ _ ?_
       refine T.cond_t rfl ?_
       refine T.seq fun K22 hK22 => ?_
       refine T.region (l := [0]) rfl ?_
       refine RN.a rfl ?_
       refine RN.nil ?_
       refine hK22 _ _ ?_
       refine T.ret ?_
       refine Post.block_r ?_
       refine Post.seq_r ?_
       refine Post.seq_r ?_
       refine Post.block_r ?_
       refine Post.seq_r ?_
       refine bodyQ_ret [A] (RetRun.tmp RetRun.nil) ⟨rfl, rfl⟩ (Ent.pull_drop (is := [3, 3]) rfl)
      ·
       refine RN.m rfl ?_
       refine RN.m rfl ?_
       refine RN.p rfl (by first | exact (p_indexAddrN rfl Tryz.underlying39 ts_42 rfl rfl (by omega)) | exact (p_indexAddr rfl Tryz.underlying39 ts_42 rfl rfl (by omega))) ?_
       refine RN.p rfl (p_fieldAddr rfl fa_42_2 rfl) ?_
       refine RN.u rfl (q_load1OA (i * 4 + 2) (v := iC xs[i].b) hat rfl sc_3 rfl (i := 3) rfl (sy_at hlt 2 (by omega))) ?_
       refine RN.p rfl (p_gtr rfl rfl rfl) ?_
       refine RN.pf rfl ?_
       refine RN.nil ?_
       refine hK19 _ _ ?_
       first | refine T.cond_dec rfl (fun h96 => ?_) (fun h96 => ?_) | refine T.cond rfl (fun h96 => ?_) (fun h96 => ?_)
       ·
        refine T.seq fun K23 hK23 => ?_
        refine T.region (l := [0]) rfl ?_
        refine RN.a rfl ?_
        refine RN.nil ?_
        refine hK23 _ _ ?_
        refine T.ret ?_
        refine Post.block_r ?_
        refine Post.seq_r ?_
        refine Post.seq_r ?_
        refine Post.block_r ?_
        refine Post.seq_r ?_
        refine bodyQ_ret [A] (RetRun.tmp RetRun.nil) ⟨rfl, rfl⟩ (Ent.pull_drop (is := [3, 3]) rfl)
       ·
        have hyes : SyOk xs[i] := ⟨by omega, by omega, by omega⟩
        refine T.skip ?_
        refine hK11 _ _ ?_
        refine T.region (l := [0, 1, 2]) rfl ?_
        refine RN.m rfl ?_
        refine RN.p rfl (by first | exact (p_addN (b := 1) rfl rfl rfl (by omega)) | exact (p_add rfl rfl rfl (by omega))) ?_
        refine RN.a rfl ?_
        refine RN.nil ?_
        refine ⟨(i + 1, acc ++ [xs[i].cm], slc b5 0 (acc.length + 1) cap5), ⟨hlt, rfl, acc_step hlt hacc, ok_step hlt hok hyes, fun _ => by omega⟩, (by show _ - (i + 1) < _ - i; omega), (LiveIs.cons rfl (LiveIs.cons rfl (LiveIs.cons rfl (LiveIs.cons (congrArg strV (pr_snoc acc _)) (LiveIs.cons rfl LiveIs.nil))))), ((Ent.pull_drop (is := [2, 2, 2]) rfl).trans (Ent.cons ((vec_of_row (by simp) c1 c2 c3).trans (vec_eq (by rw [List.length_append]; rfl) (by rw [List.map_append]; rfl))) (Ent.refl _)))⟩
 ·
  obtain rfl : i = xs.length := by omega
  rw [List.take_length] at hacc hok
  have hal : acc.length = xs.length := by rw [hacc, List.length_map]
  have hokc : ∀ c ∈ acc, CmOk c := by
   intro c hc
   rw [hacc] at hc
   obtain ⟨x, hx, rfl⟩ := List.mem_map.1 hc
   exact Sy.cmOk (hok x hx)
  have hn9 : xs.length ≤ 900 := by
   rcases Nat.eq_zero_or_pos xs.length with h | h
   · omega
   · exact h9 h
  have hpl : (prF acc).length ≤ 121000 * xs.length := by rw [hacc]; exact pr_len _ hok
  refine T.exit ?_
  refine Post.seq_x ?_
  refine Post.seq_x ?_
  refine Post.block_hit ?_
  refine hK6 _ _ ?_
  refine T.seq fun K24 hK24 => ?_
  refine T.region (l := [0, 1, 2]) rfl ?_
  refine RN.m rfl ?_
  refine RN.C [0, 0] rfl rfl rfl rfl (c_call rfl rfl) (Print_spec A hA hB acc hokc (by omega) v5) rfl ?_
  rintro _ _ ⟨rfl, rfl⟩
  refine RN.a rfl ?_
  refine RN.nil ?_
  refine hK24 _ _ ?_
  refine T.seq fun K25 hK25 => ?_
  refine T.seq fun K26 hK26 => ?_
  refine T.region (l := [0, 1, 2]) rfl ?_
  refine RN.m rfl ?_
  refine RN.m rfl ?_
  refine RN.p rfl (p_sneq rfl rfl rfl) ?_
  refine RN.nil ?_
  refine hK26 _ _ ?_
  refine T.known 101 rfl (show _ = Value.bool false from congrArg Value.bool (decide_eq_false (fun h => h rfl))) ?_
  refine T.cond_f rfl ?_
  refine T.skip ?_
  refine hK25 _ _ ?_
  refine T.seq fun K27 hK27 => ?_
  refine T.seq fun K28 hK28 => ?_
  refine T.region (l := [0, 1, 2, 3, 4, 5, 6, 7]) rfl ?_
  refine RN.m rfl ?_
  refine RN.p rfl (p_len_s rfl Tryz.underlying9 rfl) ?_
  refine RN.p rfl (p_gtr rfl rfl rfl) ?_
  refine RN.m rfl ?_
  first | refine RN.split_dec 105 rfl (fun h105 => ?_) (fun h105 => ?_) | refine RN.split 105 rfl (fun h105 => ?_) (fun h105 => ?_)
  ·
   refine RN.no0 rfl ?_
   refine RN.no0 rfl ?_
   refine RN.no0 rfl ?_
   refine RN.pt rfl ?_
   refine RN.nil ?_
   refine hK28 _ _ ?_
   refine T.cond_t rfl ?_
   refine T.seq fun K29 hK29 => ?_
   refine T.region (l := [0]) rfl ?_
   refine RN.a rfl ?_
   refine RN.nil ?_
   refine hK29 _ _ ?_
   refine T.ret ?_
   refine Post.seq_r ?_
   refine bodyQ_ret [A] (RetRun.tmp RetRun.nil) ⟨rfl, rfl⟩ (Ent.pull_drop (is := [1, 1]) rfl)
  ·
   refine RN.m rfl ?_
   refine RN.p rfl (p_len_s rfl Tryz.underlying9 rfl) ?_
   refine RN.p rfl (p_gtr rfl rfl rfl) ?_
   refine RN.pf rfl ?_
   refine RN.nil ?_
   refine hK28 _ _ ?_
   first | refine T.cond_dec rfl (fun h109 => ?_) (fun h109 => ?_) | refine T.cond rfl (fun h109 => ?_) (fun h109 => ?_)
   ·
    refine T.seq fun K30 hK30 => ?_
    refine T.region (l := [0]) rfl ?_
    refine RN.a rfl ?_
    refine RN.nil ?_
    refine hK30 _ _ ?_
    refine T.ret ?_
    refine Post.seq_r ?_
    refine bodyQ_ret [A] (RetRun.tmp RetRun.nil) ⟨rfl, rfl⟩ (Ent.pull_drop (is := [1, 1]) rfl)
   ·
    refine T.skip ?_
    refine hK27 _ _ ?_
    refine T.seq fun K31 hK31 => ?_
    refine T.region (l := [0]) rfl ?_
    refine RN.a rfl ?_
    refine RN.nil ?_
    refine hK31 _ _ ?_
    refine T.seq fun K32 hK32 => ?_
    refine T.seq fun K33 hK33 => ?_
    refine T.region (l := [0]) rfl ?_
    refine RN.a rfl ?_
    refine RN.nil ?_
    refine hK33 _ _ ?_
    refine T.block ?_
    refine T.loop (G := Nat × List UInt8) (fun ⟨j, g⟩ => j ≤ gap.length ∧ NoNl g ∧ g.length ≤ j) (fun ⟨j, g⟩ => [(1, strV gap), (5, v5), (10, strV (prF acc)), (11, strV g), (12, intV j)]) (fun ⟨j, g⟩ => [vec 35 1 v5 acc.length (acc.map cmV), A, Fr]) (fun ⟨j, g⟩ => gap.length - j) (0, []) ⟨Nat.zero_le _, (fun c hc => by cases hc), Nat.le_refl _⟩ (LiveIs.cons rfl (LiveIs.cons rfl (LiveIs.cons rfl (LiveIs.cons rfl (LiveIs.cons rfl LiveIs.nil))))) (Ent.refl _) ?_
    rintro ⟨j, g⟩ e34 ⟨hj, hg, hgj⟩
    dsimp only
    refine T.seq fun K35 hK35 => ?_
    refine T.seq fun K36 hK36 => ?_
    refine T.region (l := [0, 1, 2, 3]) rfl ?_
    refine RN.m rfl ?_
    refine RN.m rfl ?_
    refine RN.p rfl (p_len_s rfl Tryz.underlying9 rfl) ?_
    refine RN.p rfl (p_lss rfl rfl rfl) ?_
    refine RN.nil ?_
    refine hK36 _ _ ?_
    first | refine T.cond_dec rfl (fun h113 => ?_) (fun h113 => ?_) | refine T.cond rfl (fun h113 => ?_) (fun h113 => ?_)
    ·
     have hjl : j < gap.length := by omega
     refine T.skip ?_
     refine hK35 _ _ ?_
     refine T.seq fun K37 hK37 => ?_
     refine T.block ?_
     refine T.seq fun K38 hK38 => ?_
     refine T.region (l := [0, 1, 2, 3]) rfl ?_
     refine RN.m rfl ?_
     refine RN.m rfl ?_
     refine RN.p rfl (by first | exact (p_indexN_s rfl Tryz.underlying9 rfl rfl (List.getElem?_eq_getElem hjl)) | exact (p_index_s rfl Tryz.underlying9 rfl rfl (List.getElem?_eq_getElem hjl))) ?_
     refine RN.p rfl (p_neq rfl rfl rfl) ?_
     refine RN.nil ?_
     refine hK38 _ _ ?_
     first | refine T.cond_dec rfl (fun h119 => ?_) (fun h119 => ?_) | refine T.cond rfl (fun h119 => ?_) (fun h119 => ?_)
     ·
      refine T.region (l := [0, 1, 2, 3, 4, 5, 6, 7]) rfl ?_
      refine RN.m rfl ?_
      refine RN.m rfl ?_
      refine RN.m rfl ?_
      refine RN.m rfl ?_
      refine RN.p rfl (by first | exact (p_addN (b := 1) rfl rfl rfl (by omega)) | exact (p_add rfl rfl rfl (by omega))) ?_
      refine RN.p rfl (by first | exact (p_sliceN_s rfl Tryz.underlying9 rfl rfl rfl (by omega)) | exact (p_slice_s rfl Tryz.underlying9 rfl rfl rfl (by omega))) ?_
      refine RN.p rfl (p_sadd rfl rfl rfl (by rw [one_at hjl]; simp only [List.length_cons, List.length_nil]; omega)) ?_
      refine RN.a rfl ?_
      refine RN.nil ?_
      refine hK37 _ _ ?_
      refine T.region (l := [0, 1, 2]) rfl ?_
      refine RN.m rfl ?_
      refine RN.p rfl (by first | exact (p_addN (b := 1) rfl rfl rfl (by omega)) | exact (p_add rfl rfl rfl (by omega))) ?_
      refine RN.a rfl ?_
      refine RN.nil ?_
      refine ⟨(j + 1, g ++ (gap.take (j + 1)).drop j), ⟨hjl, nl_step hjl hg h119, by rw [one_at hjl, List.length_append]; show _ + 1 ≤ j + 1; omega⟩, (by show _ - (j + 1) < _ - j; omega), (LiveIs.cons rfl (LiveIs.cons rfl (LiveIs.cons rfl (LiveIs.cons rfl (LiveIs.cons rfl LiveIs.nil))))), (Ent.refl _)⟩
     ·
      refine T.skip ?_
      refine hK37 _ _ ?_
      refine T.region (l := [0, 1, 2]) rfl ?_
      refine RN.m rfl ?_
      refine RN.p rfl (by first | exact (p_addN (b := 1) rfl rfl rfl (by omega)) | exact (p_add rfl rfl rfl (by omega))) ?_
      refine RN.a rfl ?_
      refine RN.nil ?_
      refine ⟨(j + 1, g), ⟨hjl, hg, Nat.le_succ_of_le hgj⟩, (by show _ - (j + 1) < _ - j; omega), (LiveIs.cons rfl (LiveIs.cons rfl (LiveIs.cons rfl (LiveIs.cons rfl (LiveIs.cons rfl LiveIs.nil))))), (Ent.refl _)⟩
    ·
     refine T.exit ?_
     refine Post.seq_x ?_
     refine Post.seq_x ?_
     refine Post.block_hit ?_
     refine hK32 _ _ ?_
     refine T.seq fun K39 hK39 => ?_
     refine T.region (l := [0, 1, 2, 3, 4, 5, 6, 7, 8]) rfl ?_
     refine RN.m rfl ?_
     refine RN.C [1] rfl rfl rfl rfl (c_call rfl rfl) (Parse_spec A hA hB (prF acc)) rfl ?_
     rintro _ _ ⟨v13, cs1, n1, e1, rfl, hv13, hp1, rfl⟩
     obtain ⟨rfl, rfl, rfl⟩ := (parse_pr hokc (by omega) (by omega)).unique hp1
     refine RN.m rfl ?_
     refine RN.p rfl (p_extract rfl rfl rfl) ?_
     refine RN.p rfl (p_extract rfl rfl rfl) ?_
     refine RN.p rfl (p_extract rfl rfl rfl) ?_
     refine RN.a rfl ?_
     refine RN.a rfl ?_
     refine RN.a rfl ?_
     refine RN.nil ?_
     refine hK39 _ _ ?_
     refine T.seq fun K40 hK40 => ?_
     refine T.region (l := [0, 1, 2, 3, 4, 5, 6, 7, 8, 9, 10, 11, 12, 13, 14, 15]) rfl ?_
     refine RN.m rfl ?_
     refine RN.p rfl (p_sadd rfl rfl rfl (by simp only [List.length_append, List.length_cons, List.length_nil]; omega)) ?_
     refine RN.p rfl (p_sadd rfl rfl rfl (by simp only [List.length_append, List.length_cons, List.length_nil]; omega)) ?_
     refine RN.m rfl ?_
     refine RN.p rfl (p_sadd rfl rfl rfl (by simp only [List.length_append, List.length_cons, List.length_nil]; omega)) ?_
     refine RN.p rfl (p_sadd rfl rfl rfl (by simp only [List.length_append, List.length_cons, List.length_nil]; omega)) ?_
     refine RN.m rfl ?_
     refine RN.p rfl (p_sadd rfl rfl rfl (by simp only [List.length_append, List.length_cons, List.length_nil]; omega)) ?_
     refine RN.C [1] rfl rfl rfl rfl (c_call rfl rfl) (Parse_spec A hA hB ((((([35, 32] ++ g) ++ [10, 9, 32, 10]) ++ prF acc) ++ [32, 32, 35, 32]) ++ g)) rfl ?_
     rintro _ _ ⟨v16, cs2, n2, e2, rfl, hv16, hp2, rfl⟩
     obtain ⟨rfl, rfl, rfl⟩ := (parse_gap hokc hg (by omega) (by omega) (by omega)).unique hp2
     refine RN.m rfl ?_
     refine RN.p rfl (p_extract rfl rfl rfl) ?_
     refine RN.p rfl (p_extract rfl rfl rfl) ?_
     refine RN.p rfl (p_extract rfl rfl rfl) ?_
     refine RN.a rfl ?_
     refine RN.a rfl ?_
     refine RN.a rfl ?_
     refine RN.nil ?_
     refine hK40 _ _ ?_
     refine T.seq fun K41 hK41 => ?_
     refine T.seq fun K42 hK42 => ?_
     refine T.region (l := [0, 1, 2, 3, 4, 5, 6, 7, 8, 9, 10, 11, 12, 13, 14, 15, 16, 17, 18, 19]) rfl ?_
     refine RN.m rfl ?_
     refine RN.p rfl (p_neq rfl rfl rfl) ?_
     refine RN.m rfl ?_
     refine RN.known 148 rfl (show _ = Value.bool false from congrArg Value.bool (decide_eq_false (fun h => h rfl))) ?_
     refine RN.m rfl ?_
     refine RN.p rfl (p_neq rfl rfl rfl) ?_
     refine RN.pf rfl ?_
     refine RN.m rfl ?_
     refine RN.known 152 rfl (show _ = Value.bool false from congrArg Value.bool (decide_eq_false (fun h => h rfl))) ?_
     refine RN.m rfl ?_
     refine RN.u rfl (q_len_vec rfl Tryz.underlying23 rfl (i := 2) rfl) ?_
     refine RN.m rfl ?_
     refine RN.u rfl (q_len_vec rfl Tryz.underlying23 rfl (i := 3) rfl) ?_
     refine RN.p rfl (p_neq rfl rfl rfl) ?_
     refine RN.pf rfl ?_
     refine RN.m rfl ?_
     refine RN.known 159 rfl (show _ = Value.bool false from congrArg Value.bool (decide_eq_false (fun h => h rfl))) ?_
     refine RN.m rfl ?_
     refine RN.u rfl (q_len_vec rfl Tryz.underlying23 rfl (i := 0) rfl) ?_
     refine RN.m rfl ?_
     refine RN.u rfl (q_len_vec rfl Tryz.underlying23 rfl (i := 3) rfl) ?_
     refine RN.p rfl (p_neq rfl rfl rfl) ?_
     refine RN.pf rfl ?_
     refine RN.nil ?_
     refine hK42 _ _ ?_
     refine T.known 165 rfl (show _ = Value.bool false from congrArg Value.bool (decide_eq_false (fun h => h rfl))) ?_
     refine T.cond_f rfl ?_
     refine T.skip ?_
     refine hK41 _ _ ?_
     refine T.seq fun K43 hK43 => ?_
     refine T.seq fun K44 hK44 => ?_
     refine T.region (l := [0]) rfl ?_
     refine RN.a rfl ?_
     refine RN.nil ?_
     refine hK44 _ _ ?_
     refine T.block ?_
     refine T.loop (G := Nat) (fun i => i ≤ acc.length) (fun i => [(5, v5), (13, v13), (16, v16), (19, intV i)]) (fun i => [vec 35 1 v16 acc.length (acc.map cmV), A, vec 35 1 v13 acc.length (acc.map cmV), vec 35 1 v5 acc.length (acc.map cmV), Fr]) (fun i => acc.length - i) 0 (Nat.zero_le _) (LiveIs.cons rfl (LiveIs.cons rfl (LiveIs.cons rfl (LiveIs.cons rfl LiveIs.nil)))) (Ent.refl _) ?_
     rintro i e45 hia
     refine T.seq fun K46 hK46 => ?_
     refine T.seq fun K47 hK47 => ?_
     refine T.region (l := [0, 1, 2, 3]) rfl ?_
     refine RN.m rfl ?_
     refine RN.m rfl ?_
     refine RN.u rfl (q_len_vec rfl Tryz.underlying23 rfl (i := 3) rfl) ?_
     refine RN.p rfl (p_lss rfl rfl rfl) ?_
     refine RN.nil ?_
     refine hK47 _ _ ?_
     first | refine T.cond_dec rfl (fun h169 => ?_) (fun h169 => ?_) | refine T.cond rfl (fun h169 => ?_) (fun h169 => ?_)
     ·
      have hlt : i < acc.length := by omega
      have hci := hokc _ (List.getElem_mem hlt)
      refine T.openVec 0 rfl (by omega) ?_
      rintro b16 cap16 rest16 rfl x1 x2 x3
      refine T.openVec 2 rfl (by omega) ?_
      rintro b13 cap13 rest13 rfl y1 y2 y3
      refine T.openVec 3 rfl (by omega) ?_
      rintro b5 cap5 rest5 rfl z1 z2 z3
      refine T.skip ?_
      refine hK46 _ _ ?_
      refine T.seq fun K48 hK48 => ?_
      refine T.block ?_
      refine T.seq fun K49 hK49 => ?_
      refine T.region (l := [0, 1, 2, 3, 4, 5, 6, 7, 8, 9, 10]) rfl ?_
      refine RN.m rfl ?_
      refine RN.m rfl ?_
      refine RN.p rfl (by first | exact (p_indexAddr1N rfl Tryz.underlying23 ts_35 rfl rfl (by omega)) | exact (p_indexAddr1 rfl Tryz.underlying23 ts_35 rfl rfl (by omega))) ?_
      refine RN.u rfl (q_load (v := cmV acc[i]) rfl sc_35 rfl (i := 2) rfl (cm_row hlt)) ?_
      refine RN.C [] rfl rfl rfl rfl (c_call rfl rfl) (Of_spec acc[i] hci.wide) rfl ?_
      rintro _ _ ⟨rfl, rfl⟩
      refine RN.m rfl ?_
      refine RN.p rfl (p_extract rfl rfl rfl) ?_
      refine RN.p rfl (p_extract rfl rfl rfl) ?_
      refine RN.E rfl rfl rfl rfl (e_alloc rfl ti_31) ?_
      rintro _ _ ⟨b20, rfl, rfl⟩
      refine RN.EN rfl rfl rfl (e_storeA (vs := rcC acc[i]) rfl ts_31 rfl rfl rfl rc_one (i := 0) rfl (Nat.le_refl 4)) ?_
      rintro _ _ ⟨rfl, rfl⟩
      refine RN.a rfl ?_
      refine RN.nil ?_
      refine hK49 _ _ ?_
      refine T.seq fun K50 hK50 => ?_
      refine T.region (l := [0, 1, 2, 3, 4, 5, 6, 7, 8, 9, 10]) rfl ?_
      refine RN.m rfl ?_
      refine RN.m rfl ?_
      refine RN.p rfl (by first | exact (p_indexAddr1N rfl Tryz.underlying23 ts_35 rfl rfl (by omega)) | exact (p_indexAddr1 rfl Tryz.underlying23 ts_35 rfl rfl (by omega))) ?_
      refine RN.u rfl (q_load (v := cmV acc[i]) rfl sc_35 rfl (i := 4) rfl (cm_row hlt)) ?_
      refine RN.C [] rfl rfl rfl rfl (c_call rfl rfl) (Of_spec acc[i] hci.wide) rfl ?_
      rintro _ _ ⟨rfl, rfl⟩
      refine RN.m rfl ?_
      refine RN.p rfl (p_extract rfl rfl rfl) ?_
      refine RN.p rfl (p_extract rfl rfl rfl) ?_
      refine RN.E rfl rfl rfl rfl (e_alloc rfl ti_31) ?_
      rintro _ _ ⟨b22, rfl, rfl⟩
      refine RN.EN rfl rfl rfl (e_storeA (vs := rcC acc[i]) rfl ts_31 rfl rfl rfl rc_one (i := 0) rfl (Nat.le_refl 4)) ?_
      rintro _ _ ⟨rfl, rfl⟩
      refine RN.a rfl ?_
      refine RN.nil ?_
      refine hK50 _ _ ?_
      refine T.seq fun K51 hK51 => ?_
      refine T.region (l := [0, 1, 2, 3, 4, 5, 6, 7, 8, 9, 10]) rfl ?_
      refine RN.m rfl ?_
      refine RN.m rfl ?_
      refine RN.p rfl (by first | exact (p_indexAddr1N rfl Tryz.underlying23 ts_35 rfl rfl (by omega)) | exact (p_indexAddr1 rfl Tryz.underlying23 ts_35 rfl rfl (by omega))) ?_
      refine RN.u rfl (q_load (v := cmV acc[i]) rfl sc_35 rfl (i := 2) rfl (cm_row hlt)) ?_
      refine RN.C [] rfl rfl rfl rfl (c_call rfl rfl) (Of_spec acc[i] hci.wide) rfl ?_
      rintro _ _ ⟨rfl, rfl⟩
      refine RN.m rfl ?_
      refine RN.p rfl (p_extract rfl rfl rfl) ?_
      refine RN.p rfl (p_extract rfl rfl rfl) ?_
      refine RN.E rfl rfl rfl rfl (e_alloc rfl ti_31) ?_
      rintro _ _ ⟨b24, rfl, rfl⟩
      refine RN.EN rfl rfl rfl (e_storeA (vs := rcC acc[i]) rfl ts_31 rfl rfl rfl rc_one (i := 0) rfl (Nat.le_refl 4)) ?_
      rintro _ _ ⟨rfl, rfl⟩
      refine RN.a rfl ?_
      refine RN.nil ?_
      refine hK51 _ _ ?_
      refine T.seq fun K52 hK52 => ?_
      refine T.region (l := [0, 1, 2, 3, 4, 5, 6, 7, 8, 9, 10, 11, 12, 13, 14, 15]) rfl ?_
      refine RN.m rfl ?_
      refine RN.p rfl (by first | exact (p_not_dec rfl rfl) | exact (p_not rfl rfl)) ?_
      refine RN.m rfl ?_
      refine RN.known 198 rfl (show _ = Value.bool false from rfl) ?_
      refine RN.m rfl ?_
      refine RN.p rfl (by first | exact (p_not_dec rfl rfl) | exact (p_not rfl rfl)) ?_
      refine RN.pf rfl ?_
      refine RN.m rfl ?_
      refine RN.known 202 rfl (show _ = Value.bool false from rfl) ?_
      refine RN.u rfl (q_loadA (vs := rcC acc[i]) rfl ag_31 ts_31 rfl (i := 2) rfl (Nat.le_refl 4) rfl) ?_
      refine RN.u rfl (q_loadA (vs := rcC acc[i]) rfl ag_31 ts_31 rfl (i := 1) rfl (Nat.le_refl 4) rfl) ?_
      refine RN.p rfl (p_aggneq (p := True) rfl keyRC rfl rfl (plainRC hci) (plainRC hci) ⟨fun _ => rfl, fun _ => trivial⟩) ?_
      refine RN.pf rfl ?_
      refine RN.m rfl ?_
      refine RN.known 207 rfl (show _ = Value.bool false from congrArg Value.bool (decide_eq_false (fun h => h trivial))) ?_
      refine RN.u rfl (q_loadA (vs := rcC acc[i]) rfl ag_31 ts_31 rfl (i := 0) rfl (Nat.le_refl 4) rfl) ?_
      refine RN.u rfl (q_loadA (vs := rcC acc[i]) rfl ag_31 ts_31 rfl (i := 1) rfl (Nat.le_refl 4) rfl) ?_
      refine RN.p rfl (p_aggneq (p := True) rfl keyRC rfl rfl (plainRC hci) (plainRC hci) ⟨fun _ => rfl, fun _ => trivial⟩) ?_
      refine RN.pf rfl ?_
      refine RN.nil ?_
      refine hK52 _ _ ?_
      refine T.known 211 rfl (show _ = Value.bool false from congrArg Value.bool (decide_eq_false (fun h => h trivial))) ?_
      refine T.cond_f rfl ?_
      refine T.skip ?_
      refine hK48 _ _ ?_
      refine T.region (l := [0, 1, 2]) rfl ?_
      refine RN.m rfl ?_
      refine RN.p rfl (by first | exact (p_addN (b := 1) rfl rfl rfl (by omega)) | exact (p_add rfl rfl rfl (by omega))) ?_
      refine RN.a rfl ?_
      refine RN.nil ?_
      refine ⟨i + 1, hlt, (by show _ - (i + 1) < _ - i; omega), (LiveIs.cons rfl (LiveIs.cons rfl (LiveIs.cons rfl (LiveIs.cons rfl LiveIs.nil)))), ((Ent.pull_drop (is := [3, 3, 3, 3, 3]) rfl).trans (Ent.cons (vec_of_row (by simp) x1 x2 x3) (Ent.cons (Ent.refl _) (Ent.cons (vec_of_row (by simp) y1 y2 y3) (Ent.cons (vec_of_row (by simp) z1 z2 z3) (Ent.refl _))))))⟩
     ·
      refine T.exit ?_
      refine Post.seq_x ?_
      refine Post.seq_x ?_
      refine Post.block_hit ?_
      refine hK43 _ _ ?_
      refine T.seq fun K53 hK53 => ?_
      refine T.region (l := [0]) rfl ?_
      refine RN.a rfl ?_
      refine RN.nil ?_
      refine hK53 _ _ ?_
      refine T.ret ?_
      refine bodyQ_ret [A] (RetRun.tmp RetRun.nil) ⟨rfl, rfl⟩ (Ent.pull_drop (is := [1, 3]) rfl)

end Go.Proofs.YtokbjejbgbdkoaaGreatDoor
