/-
 The reference: walked.
-/
import Derived.Test.YtbbgajjonodlfaaGreatGYvR1
set_option linter.unusedVariables false
set_option linter.unusedSimpArgs false
namespace Go.Proofs.YtbbgajjonodlfaaGreat
open Go Go.Sl Go.Proofs
set_option maxRecDepth 20000
open Go.Mo Go.Evl
theorem ERun.ofQR {P : Program} {e : Env} {Hs : List Assn} {o : Oper} {v : Value} (h : QRun P e Hs o v) : ERun P e Hs o (fun u H => u = v ∧ H = Hs) := fun W0 w hs => ⟨v, w, Hs, .inl (h W0 w hs), ⟨rfl, rfl⟩, hs⟩
theorem bytes_hd (x : VE) (hn : x.name.length ≤ 16) : (([86] : List UInt8) ++ [UInt8.ofNat x.name.length]) ++ x.name ++ List.replicate (16 - x.name.length) (0 : UInt8) ++ [UInt8.ofNat x.first, UInt8.ofNat (x.first >>> 8), UInt8.ofNat x.len, UInt8.ofNat (x.len >>> 8)] = hdT x := by
 unfold hdT
 rw [pad_small hn]
 simp only [List.append_assoc]
 rfl

theorem Bytes_spec (y : VE × Nat) (hn : y.1.name.length ≤ 16) (hf : y.1.first < 65536) (hl : y.1.len < 65536) : Ctr Tryz.prog 55 [.agg (rcE y).toArray] [] (fun v Ps => v = strV (laidT y.1) ∧ Ps = []) := by
 refine Ctr.of_body Tryz.func55 rfl (by kernel_rfl) Tryz.ntmps55 rfl rfl (fun Fr => ?_)
 refine T.seq fun K1 hK1 => ?_
 refine T.region (l := [0, 1]) rfl ?_
 refine RN.E rfl rfl rfl rfl (e_box rfl rfl rfl) ?_
 rintro _ _ ⟨b1, rfl, rfl⟩
 refine RN.a rfl ?_
 refine RN.nil ?_
 refine hK1 _ _ ?_
 refine T.cut (G := Unit) (fun ⟨⟩ => True) (fun ⟨⟩ => [(3, strV (hdT y.1))]) (fun ⟨⟩ => [row b1 79 (rcE y), Fr]) ?_ ?_
 ·
  -- EFFECTS UNORDERED [4, 14, 30]
  -- EFFECTS UNORDERED [5, 14, 30]
  -- EFFECTS UNORDERED [14, 30]
  refine T.regionT3 (z := 34) (Bs := [row b1 79 (rcE y)]) (t := .br3 [(0, .pure), (1, .load), (2, .pure), (3, .pure), (7, .pure), (8, .load), (10, .pure), (11, .load), (12, .pure), (13, .pure), (16, .pure), (17, .load), (18, .pure), (19, .pure), (20, .load), (21, .pure), (22, .pure), (23, .pure), (24, .load), (25, .pure), (26, .pure), (27, .load), (28, .pure), (29, .pure)] 4 (.br3 [] 5 (.br [(6, .pure), (9, .pure)] 14 (.go [(15, .pure), (30, .eff), (31, .eff), (32, .pure), (33, .pure)]) 30 (.br [] 14 (.go [(15, .pure), (31, .eff), (32, .pure), (33, .pure)]) 31 (.go [(14, .eff), (15, .pure), (32, .pure), (33, .pure)]))) 14 (.br [] 5 (.go [(6, .pure), (9, .pure), (15, .pure), (30, .eff), (31, .eff), (32, .pure), (33, .pure)]) 30 (.br [] 5 (.go [(6, .pure), (9, .pure), (15, .pure), (31, .eff), (32, .pure), (33, .pure)]) 31 (.go [(5, .eff), (6, .pure), (9, .pure), (15, .pure), (32, .pure), (33, .pure)]))) 30 (.br3 [] 5 (.br [(6, .pure), (9, .pure)] 14 (.go [(15, .pure), (31, .eff), (32, .pure), (33, .pure)]) 31 (.go [(14, .eff), (15, .pure), (32, .pure), (33, .pure)])) 14 (.br [] 5 (.go [(6, .pure), (9, .pure), (15, .pure), (31, .eff), (32, .pure), (33, .pure)]) 31 (.go [(5, .eff), (6, .pure), (9, .pure), (15, .pure), (32, .pure), (33, .pure)])) 31 (.br [] 5 (.go [(6, .pure), (9, .pure), (14, .eff), (15, .pure), (32, .pure), (33, .pure)]) 14 (.go [(5, .eff), (6, .pure), (9, .pure), (15, .pure), (32, .pure), (33, .pure)])))) 14 (.br [] 4 (.br [] 5 (.go [(6, .pure), (9, .pure), (15, .pure), (30, .eff), (31, .eff), (32, .pure), (33, .pure)]) 30 (.br [] 5 (.go [(6, .pure), (9, .pure), (15, .pure), (31, .eff), (32, .pure), (33, .pure)]) 31 (.go [(5, .eff), (6, .pure), (9, .pure), (15, .pure), (32, .pure), (33, .pure)]))) 30 (.br [] 4 (.br [] 5 (.go [(6, .pure), (9, .pure), (15, .pure), (31, .eff), (32, .pure), (33, .pure)]) 31 (.go [(5, .eff), (6, .pure), (9, .pure), (15, .pure), (32, .pure), (33, .pure)])) 31 (.go [(4, .eff), (5, .eff), (6, .pure), (9, .pure), (15, .pure), (32, .pure), (33, .pure)]))) 30 (.br3 [] 4 (.br3 [] 5 (.br [(6, .pure), (9, .pure)] 14 (.go [(15, .pure), (31, .eff), (32, .pure), (33, .pure)]) 31 (.go [(14, .eff), (15, .pure), (32, .pure), (33, .pure)])) 14 (.br [] 5 (.go [(6, .pure), (9, .pure), (15, .pure), (31, .eff), (32, .pure), (33, .pure)]) 31 (.go [(5, .eff), (6, .pure), (9, .pure), (15, .pure), (32, .pure), (33, .pure)])) 31 (.br [] 5 (.go [(6, .pure), (9, .pure), (14, .eff), (15, .pure), (32, .pure), (33, .pure)]) 14 (.go [(5, .eff), (6, .pure), (9, .pure), (15, .pure), (32, .pure), (33, .pure)]))) 14 (.br [] 4 (.br [] 5 (.go [(6, .pure), (9, .pure), (15, .pure), (31, .eff), (32, .pure), (33, .pure)]) 31 (.go [(5, .eff), (6, .pure), (9, .pure), (15, .pure), (32, .pure), (33, .pure)])) 31 (.go [(4, .eff), (5, .eff), (6, .pure), (9, .pure), (15, .pure), (32, .pure), (33, .pure)])) 31 (.br [] 4 (.br [] 5 (.go [(6, .pure), (9, .pure), (14, .eff), (15, .pure), (32, .pure), (33, .pure)]) 14 (.go [(5, .eff), (6, .pure), (9, .pure), (15, .pure), (32, .pure), (33, .pure)])) 14 (.go [(4, .eff), (5, .eff), (6, .pure), (9, .pure), (15, .pure), (32, .pure), (33, .pure)])))) mixed (by kernel_rfl) (by exact Ent.pull_drop (is := [0]) rfl) ?_
  refine RDT3.br3 ?_
  refine RD.n rfl (p_fieldAddr rfl fa_79_0 rfl) ?_
  refine RD.qq rfl rfl rfl rfl (by exact (q_load rfl sc_9 rfl (i := 0) rfl rfl)) (by exact Ent.pull_drop (is := [0]) rfl) ?_
  refine RD.n rfl (p_len_s rfl Tryz.underlying9 rfl) ?_
  refine RD.n rfl (p_convB rfl Tryz.underlying3 Tryz.underlying5 rfl) ?_
  refine RD.n rfl (p_fieldAddr rfl fa_79_0 rfl) ?_
  refine RD.qq rfl rfl rfl rfl (by exact (q_load rfl sc_9 rfl (i := 0) rfl rfl)) (by exact Ent.pull_drop (is := [0]) rfl) ?_
  refine RD.n rfl (p_fieldAddr rfl fa_79_0 rfl) ?_
  refine RD.qq rfl rfl rfl rfl (by exact (q_load rfl sc_9 rfl (i := 0) rfl rfl)) (by exact Ent.pull_drop (is := [0]) rfl) ?_
  refine RD.n rfl (p_len_s rfl Tryz.underlying9 rfl) ?_
  refine RD.n rfl (by exact (p_subN (a := 16) rfl rfl rfl (by omega))) ?_
  refine RD.n rfl (p_fieldAddr rfl fa_79_1 rfl) ?_
  refine RD.qq rfl rfl rfl rfl (by exact (q_load rfl sc_3 rfl (i := 0) rfl rfl)) (by exact Ent.pull_drop (is := [0]) rfl) ?_
  refine RD.n rfl (p_convB rfl Tryz.underlying3 Tryz.underlying5 rfl) ?_
  refine RD.n rfl (p_fieldAddr rfl fa_79_1 rfl) ?_
  refine RD.qq rfl rfl rfl rfl (by exact (q_load rfl sc_3 rfl (i := 0) rfl rfl)) (by exact Ent.pull_drop (is := [0]) rfl) ?_
  refine RD.n rfl (p_shrN (b := 8) rfl rfl rfl (by decide)) ?_
  refine RD.n rfl (p_convB rfl Tryz.underlying3 Tryz.underlying5 rfl) ?_
  refine RD.n rfl (p_fieldAddr rfl fa_79_2 rfl) ?_
  refine RD.qq rfl rfl rfl rfl (by exact (q_load rfl sc_3 rfl (i := 0) rfl rfl)) (by exact Ent.pull_drop (is := [0]) rfl) ?_
  refine RD.n rfl (p_convB rfl Tryz.underlying3 Tryz.underlying5 rfl) ?_
  refine RD.n rfl (p_fieldAddr rfl fa_79_2 rfl) ?_
  refine RD.qq rfl rfl rfl rfl (by exact (q_load rfl sc_3 rfl (i := 0) rfl rfl)) (by exact Ent.pull_drop (is := [0]) rfl) ?_
  refine RD.n rfl (p_shrN (b := 8) rfl rfl rfl (by decide)) ?_
  refine RD.n rfl (p_convB rfl Tryz.underlying3 Tryz.underlying5 rfl) ?_
  refine RD.nil ?_
  refine ⟨?_, ?_, ?_⟩
  ·
   refine RD.E rfl rfl rfl rfl (e_buildSlice1 rfl Tryz.underlying57 ti_5 rfl (by conv => lhs; whnf) rfl) (by rintro _ _ ⟨_, rfl, rfl⟩; exact .inl (by exact Ent.pull_drop (is := [1]) rfl)) ?_
   rintro _ _ ⟨b8, rfl, rfl⟩
   refine RD.nil ?_
   refine RDT3.br3 ?_
   refine RD.nil ?_
   refine ⟨?_, ?_, ?_⟩
   ·
    refine RD.E rfl rfl rfl rfl (ERun.ofQR (q_bytes_str rfl Tryz.underlying57 Tryz.underlying5 Tryz.underlying9 rfl (i := 0) rfl (l := [UInt8.ofNat y.1.name.length]) (by show 0 + 1 ≤ 1; decide) rfl)) (by rintro _ _ ⟨rfl, rfl⟩; exact .inl (by exact Ent.pull_drop (is := [1]) rfl)) ?_
    rintro _ _ ⟨rfl, rfl⟩
    refine RD.nil ?_
    refine RDT3.br ?_
    refine RD.n rfl (p_sadd rfl rfl rfl (by show 1 + 1 ≤ _; exact Nat.le_of_ble_eq_true rfl)) ?_
    refine RD.n rfl (p_sadd rfl rfl rfl (by simp; omega)) ?_
    refine RD.nil ?_
    refine ⟨?_, ?_⟩
    ·
     refine RD.C [] rfl rfl rfl rfl (c_call rfl rfl) (noughts_spec (16 - y.1.name.length) (by omega)) rfl (by rintro _ _ ⟨rfl, rfl⟩; exact .inl (by exact Ent.pull_drop (is := [1]) rfl)) ?_
     rintro _ _ ⟨rfl, rfl⟩
     refine RD.nil ?_
     refine RDT3.go ?_
     refine RD.n rfl (p_sadd rfl rfl rfl (by simp; omega)) ?_
     refine RD.E rfl rfl rfl rfl (e_buildSlice rfl Tryz.underlying57 ti_5 rfl (by decide) rfl (by simp)) (by rintro _ _ ⟨_, rfl, rfl⟩; exact .inl (by exact Ent.pull_drop (is := [2]) rfl)) ?_
     rintro _ _ ⟨b34, rfl, rfl⟩
     refine RD.E rfl rfl rfl rfl (ERun.ofQR (q_bytes_str rfl Tryz.underlying57 Tryz.underlying5 Tryz.underlying9 rfl (i := 0) rfl (l := [UInt8.ofNat y.1.first, UInt8.ofNat (y.1.first >>> 8), UInt8.ofNat y.1.len, UInt8.ofNat (y.1.len >>> 8)]) (by show 0 + 4 ≤ 4; decide) rfl)) (by rintro _ _ ⟨rfl, rfl⟩; exact .inl (by exact Ent.pull_drop (is := [2]) rfl)) ?_
     rintro _ _ ⟨rfl, rfl⟩
     refine RD.n rfl (p_sadd rfl rfl rfl (by simp; omega)) ?_
     refine RD.n rfl (p_assign rfl (by conv => lhs; whnf)) ?_
     refine RD.nil ?_
     refine ⟨(), trivial, (LiveIs.cons (congrArg strV (bytes_hd y.1 hn)) LiveIs.nil), (by exact Ent.pull_drop (is := [2, 2]) rfl)⟩
    ·
     refine RD.E rfl rfl rfl rfl (e_buildSlice rfl Tryz.underlying57 ti_5 rfl (by decide) rfl (by simp)) (by rintro _ _ ⟨_, rfl, rfl⟩; exact .inl (by exact Ent.pull_drop (is := [2]) rfl)) ?_
     rintro _ _ ⟨b34, rfl, rfl⟩
     refine RD.nil ?_
     refine RDT3.br ?_
     refine RD.nil ?_
     refine ⟨?_, ?_⟩
     ·
      refine RD.C [] rfl rfl rfl rfl (c_call rfl rfl) (noughts_spec (16 - y.1.name.length) (by omega)) rfl (by rintro _ _ ⟨rfl, rfl⟩; exact .inl (by exact Ent.pull_drop (is := [2]) rfl)) ?_
      rintro _ _ ⟨rfl, rfl⟩
      refine RD.nil ?_
      refine RDT3.go ?_
      refine RD.n rfl (p_sadd rfl rfl rfl (by simp; omega)) ?_
      refine RD.E rfl rfl rfl rfl (ERun.ofQR (q_bytes_str rfl Tryz.underlying57 Tryz.underlying5 Tryz.underlying9 rfl (i := 0) rfl (l := [UInt8.ofNat y.1.first, UInt8.ofNat (y.1.first >>> 8), UInt8.ofNat y.1.len, UInt8.ofNat (y.1.len >>> 8)]) (by show 0 + 4 ≤ 4; decide) rfl)) (by rintro _ _ ⟨rfl, rfl⟩; exact .inl (by exact Ent.pull_drop (is := [2]) rfl)) ?_
      rintro _ _ ⟨rfl, rfl⟩
      refine RD.n rfl (p_sadd rfl rfl rfl (by simp; omega)) ?_
      refine RD.n rfl (p_assign rfl (by conv => lhs; whnf)) ?_
      refine RD.nil ?_
      refine ⟨(), trivial, (LiveIs.cons (congrArg strV (bytes_hd y.1 hn)) LiveIs.nil), (by exact Ent.pull_drop (is := [2, 2]) rfl)⟩
     ·
      refine RD.E rfl rfl rfl rfl (ERun.ofQR (q_bytes_str rfl Tryz.underlying57 Tryz.underlying5 Tryz.underlying9 rfl (i := 0) rfl (l := [UInt8.ofNat y.1.first, UInt8.ofNat (y.1.first >>> 8), UInt8.ofNat y.1.len, UInt8.ofNat (y.1.len >>> 8)]) (by show 0 + 4 ≤ 4; decide) rfl)) (by rintro _ _ ⟨rfl, rfl⟩; exact .inl (by exact Ent.pull_drop (is := [2]) rfl)) ?_
      rintro _ _ ⟨rfl, rfl⟩
      refine RD.nil ?_
      refine RDT3.go ?_
      refine RD.C [] rfl rfl rfl rfl (c_call rfl rfl) (noughts_spec (16 - y.1.name.length) (by omega)) rfl (by rintro _ _ ⟨rfl, rfl⟩; exact .inl (by exact Ent.pull_drop (is := [2]) rfl)) ?_
      rintro _ _ ⟨rfl, rfl⟩
      refine RD.n rfl (p_sadd rfl rfl rfl (by simp; omega)) ?_
      refine RD.n rfl (p_sadd rfl rfl rfl (by simp; omega)) ?_
      refine RD.n rfl (p_assign rfl (by conv => lhs; whnf)) ?_
      refine RD.nil ?_
      refine ⟨(), trivial, (LiveIs.cons (congrArg strV (bytes_hd y.1 hn)) LiveIs.nil), (by exact Ent.pull_drop (is := [2, 2]) rfl)⟩
   ·
    refine RD.C [] rfl rfl rfl rfl (c_call rfl rfl) (noughts_spec (16 - y.1.name.length) (by omega)) rfl (by rintro _ _ ⟨rfl, rfl⟩; exact .inl (by exact Ent.pull_drop (is := [1]) rfl)) ?_
    rintro _ _ ⟨rfl, rfl⟩
    refine RD.nil ?_
    refine RDT3.br ?_
    refine RD.nil ?_
    refine ⟨?_, ?_⟩
    ·
     refine RD.E rfl rfl rfl rfl (ERun.ofQR (q_bytes_str rfl Tryz.underlying57 Tryz.underlying5 Tryz.underlying9 rfl (i := 0) rfl (l := [UInt8.ofNat y.1.name.length]) (by show 0 + 1 ≤ 1; decide) rfl)) (by rintro _ _ ⟨rfl, rfl⟩; exact .inl (by exact Ent.pull_drop (is := [1]) rfl)) ?_
     rintro _ _ ⟨rfl, rfl⟩
     refine RD.nil ?_
     refine RDT3.go ?_
     refine RD.n rfl (p_sadd rfl rfl rfl (by show 1 + 1 ≤ _; exact Nat.le_of_ble_eq_true rfl)) ?_
     refine RD.n rfl (p_sadd rfl rfl rfl (by simp; omega)) ?_
     refine RD.n rfl (p_sadd rfl rfl rfl (by simp; omega)) ?_
     refine RD.E rfl rfl rfl rfl (e_buildSlice rfl Tryz.underlying57 ti_5 rfl (by decide) rfl (by simp)) (by rintro _ _ ⟨_, rfl, rfl⟩; exact .inl (by exact Ent.pull_drop (is := [2]) rfl)) ?_
     rintro _ _ ⟨b34, rfl, rfl⟩
     refine RD.E rfl rfl rfl rfl (ERun.ofQR (q_bytes_str rfl Tryz.underlying57 Tryz.underlying5 Tryz.underlying9 rfl (i := 0) rfl (l := [UInt8.ofNat y.1.first, UInt8.ofNat (y.1.first >>> 8), UInt8.ofNat y.1.len, UInt8.ofNat (y.1.len >>> 8)]) (by show 0 + 4 ≤ 4; decide) rfl)) (by rintro _ _ ⟨rfl, rfl⟩; exact .inl (by exact Ent.pull_drop (is := [2]) rfl)) ?_
     rintro _ _ ⟨rfl, rfl⟩
     refine RD.n rfl (p_sadd rfl rfl rfl (by simp; omega)) ?_
     refine RD.n rfl (p_assign rfl (by conv => lhs; whnf)) ?_
     refine RD.nil ?_
     refine ⟨(), trivial, (LiveIs.cons (congrArg strV (bytes_hd y.1 hn)) LiveIs.nil), (by exact Ent.pull_drop (is := [2, 2]) rfl)⟩
    ·
     refine RD.E rfl rfl rfl rfl (e_buildSlice rfl Tryz.underlying57 ti_5 rfl (by decide) rfl (by simp)) (by rintro _ _ ⟨_, rfl, rfl⟩; exact .inl (by exact Ent.pull_drop (is := [2]) rfl)) ?_
     rintro _ _ ⟨b34, rfl, rfl⟩
     refine RD.nil ?_
     refine RDT3.br ?_
     refine RD.nil ?_
     refine ⟨?_, ?_⟩
     ·
      refine RD.E rfl rfl rfl rfl (ERun.ofQR (q_bytes_str rfl Tryz.underlying57 Tryz.underlying5 Tryz.underlying9 rfl (i := 1) rfl (l := [UInt8.ofNat y.1.name.length]) (by show 0 + 1 ≤ 1; decide) rfl)) (by rintro _ _ ⟨rfl, rfl⟩; exact .inl (by exact Ent.pull_drop (is := [2]) rfl)) ?_
      rintro _ _ ⟨rfl, rfl⟩
      refine RD.nil ?_
      refine RDT3.go ?_
      refine RD.n rfl (p_sadd rfl rfl rfl (by show 1 + 1 ≤ _; exact Nat.le_of_ble_eq_true rfl)) ?_
      refine RD.n rfl (p_sadd rfl rfl rfl (by simp; omega)) ?_
      refine RD.n rfl (p_sadd rfl rfl rfl (by simp; omega)) ?_
      refine RD.E rfl rfl rfl rfl (ERun.ofQR (q_bytes_str rfl Tryz.underlying57 Tryz.underlying5 Tryz.underlying9 rfl (i := 0) rfl (l := [UInt8.ofNat y.1.first, UInt8.ofNat (y.1.first >>> 8), UInt8.ofNat y.1.len, UInt8.ofNat (y.1.len >>> 8)]) (by show 0 + 4 ≤ 4; decide) rfl)) (by rintro _ _ ⟨rfl, rfl⟩; exact .inl (by exact Ent.pull_drop (is := [2]) rfl)) ?_
      rintro _ _ ⟨rfl, rfl⟩
      refine RD.n rfl (p_sadd rfl rfl rfl (by simp; omega)) ?_
      refine RD.n rfl (p_assign rfl (by conv => lhs; whnf)) ?_
      refine RD.nil ?_
      refine ⟨(), trivial, (LiveIs.cons (congrArg strV (bytes_hd y.1 hn)) LiveIs.nil), (by exact Ent.pull_drop (is := [2, 2]) rfl)⟩
     ·
      refine RD.E rfl rfl rfl rfl (ERun.ofQR (q_bytes_str rfl Tryz.underlying57 Tryz.underlying5 Tryz.underlying9 rfl (i := 0) rfl (l := [UInt8.ofNat y.1.first, UInt8.ofNat (y.1.first >>> 8), UInt8.ofNat y.1.len, UInt8.ofNat (y.1.len >>> 8)]) (by show 0 + 4 ≤ 4; decide) rfl)) (by rintro _ _ ⟨rfl, rfl⟩; exact .inl (by exact Ent.pull_drop (is := [2]) rfl)) ?_
      rintro _ _ ⟨rfl, rfl⟩
      refine RD.nil ?_
      refine RDT3.go ?_
      refine RD.E rfl rfl rfl rfl (ERun.ofQR (q_bytes_str rfl Tryz.underlying57 Tryz.underlying5 Tryz.underlying9 rfl (i := 1) rfl (l := [UInt8.ofNat y.1.name.length]) (by show 0 + 1 ≤ 1; decide) rfl)) (by rintro _ _ ⟨rfl, rfl⟩; exact .inl (by exact Ent.pull_drop (is := [2]) rfl)) ?_
      rintro _ _ ⟨rfl, rfl⟩
      refine RD.n rfl (p_sadd rfl rfl rfl (by show 1 + 1 ≤ _; exact Nat.le_of_ble_eq_true rfl)) ?_
      refine RD.n rfl (p_sadd rfl rfl rfl (by simp; omega)) ?_
      refine RD.n rfl (p_sadd rfl rfl rfl (by simp; omega)) ?_
      refine RD.n rfl (p_sadd rfl rfl rfl (by simp; omega)) ?_
      refine RD.n rfl (p_assign rfl (by conv => lhs; whnf)) ?_
      refine RD.nil ?_
      refine ⟨(), trivial, (LiveIs.cons (congrArg strV (bytes_hd y.1 hn)) LiveIs.nil), (by exact Ent.pull_drop (is := [2, 2]) rfl)⟩
   ·
    refine RD.E rfl rfl rfl rfl (e_buildSlice rfl Tryz.underlying57 ti_5 rfl (by decide) rfl (by simp)) (by rintro _ _ ⟨_, rfl, rfl⟩; exact .inl (by exact Ent.pull_drop (is := [2]) rfl)) ?_
    rintro _ _ ⟨b34, rfl, rfl⟩
    refine RD.nil ?_
    refine RDT3.br3 ?_
    refine RD.nil ?_
    refine ⟨?_, ?_, ?_⟩
    ·
     refine RD.E rfl rfl rfl rfl (ERun.ofQR (q_bytes_str rfl Tryz.underlying57 Tryz.underlying5 Tryz.underlying9 rfl (i := 1) rfl (l := [UInt8.ofNat y.1.name.length]) (by show 0 + 1 ≤ 1; decide) rfl)) (by rintro _ _ ⟨rfl, rfl⟩; exact .inl (by exact Ent.pull_drop (is := [2]) rfl)) ?_
     rintro _ _ ⟨rfl, rfl⟩
     refine RD.nil ?_
     refine RDT3.br ?_
     refine RD.n rfl (p_sadd rfl rfl rfl (by show 1 + 1 ≤ _; exact Nat.le_of_ble_eq_true rfl)) ?_
     refine RD.n rfl (p_sadd rfl rfl rfl (by simp; omega)) ?_
     refine RD.nil ?_
     refine ⟨?_, ?_⟩
     ·
      refine RD.C [] rfl rfl rfl rfl (c_call rfl rfl) (noughts_spec (16 - y.1.name.length) (by omega)) rfl (by rintro _ _ ⟨rfl, rfl⟩; exact .inl (by exact Ent.pull_drop (is := [2]) rfl)) ?_
      rintro _ _ ⟨rfl, rfl⟩
      refine RD.nil ?_
      refine RDT3.go ?_
      refine RD.n rfl (p_sadd rfl rfl rfl (by simp; omega)) ?_
      refine RD.E rfl rfl rfl rfl (ERun.ofQR (q_bytes_str rfl Tryz.underlying57 Tryz.underlying5 Tryz.underlying9 rfl (i := 0) rfl (l := [UInt8.ofNat y.1.first, UInt8.ofNat (y.1.first >>> 8), UInt8.ofNat y.1.len, UInt8.ofNat (y.1.len >>> 8)]) (by show 0 + 4 ≤ 4; decide) rfl)) (by rintro _ _ ⟨rfl, rfl⟩; exact .inl (by exact Ent.pull_drop (is := [2]) rfl)) ?_
      rintro _ _ ⟨rfl, rfl⟩
      refine RD.n rfl (p_sadd rfl rfl rfl (by simp; omega)) ?_
      refine RD.n rfl (p_assign rfl (by conv => lhs; whnf)) ?_
      refine RD.nil ?_
      refine ⟨(), trivial, (LiveIs.cons (congrArg strV (bytes_hd y.1 hn)) LiveIs.nil), (by exact Ent.pull_drop (is := [2, 2]) rfl)⟩
     ·
      refine RD.E rfl rfl rfl rfl (ERun.ofQR (q_bytes_str rfl Tryz.underlying57 Tryz.underlying5 Tryz.underlying9 rfl (i := 0) rfl (l := [UInt8.ofNat y.1.first, UInt8.ofNat (y.1.first >>> 8), UInt8.ofNat y.1.len, UInt8.ofNat (y.1.len >>> 8)]) (by show 0 + 4 ≤ 4; decide) rfl)) (by rintro _ _ ⟨rfl, rfl⟩; exact .inl (by exact Ent.pull_drop (is := [2]) rfl)) ?_
      rintro _ _ ⟨rfl, rfl⟩
      refine RD.nil ?_
      refine RDT3.go ?_
      refine RD.C [] rfl rfl rfl rfl (c_call rfl rfl) (noughts_spec (16 - y.1.name.length) (by omega)) rfl (by rintro _ _ ⟨rfl, rfl⟩; exact .inl (by exact Ent.pull_drop (is := [2]) rfl)) ?_
      rintro _ _ ⟨rfl, rfl⟩
      refine RD.n rfl (p_sadd rfl rfl rfl (by simp; omega)) ?_
      refine RD.n rfl (p_sadd rfl rfl rfl (by simp; omega)) ?_
      refine RD.n rfl (p_assign rfl (by conv => lhs; whnf)) ?_
      refine RD.nil ?_
      refine ⟨(), trivial, (LiveIs.cons (congrArg strV (bytes_hd y.1 hn)) LiveIs.nil), (by exact Ent.pull_drop (is := [2, 2]) rfl)⟩
    ·
     refine RD.C [] rfl rfl rfl rfl (c_call rfl rfl) (noughts_spec (16 - y.1.name.length) (by omega)) rfl (by rintro _ _ ⟨rfl, rfl⟩; exact .inl (by exact Ent.pull_drop (is := [2]) rfl)) ?_
     rintro _ _ ⟨rfl, rfl⟩
     refine RD.nil ?_
     refine RDT3.br ?_
     refine RD.nil ?_
     refine ⟨?_, ?_⟩
     ·
      refine RD.E rfl rfl rfl rfl (ERun.ofQR (q_bytes_str rfl Tryz.underlying57 Tryz.underlying5 Tryz.underlying9 rfl (i := 1) rfl (l := [UInt8.ofNat y.1.name.length]) (by show 0 + 1 ≤ 1; decide) rfl)) (by rintro _ _ ⟨rfl, rfl⟩; exact .inl (by exact Ent.pull_drop (is := [2]) rfl)) ?_
      rintro _ _ ⟨rfl, rfl⟩
      refine RD.nil ?_
      refine RDT3.go ?_
      refine RD.n rfl (p_sadd rfl rfl rfl (by show 1 + 1 ≤ _; exact Nat.le_of_ble_eq_true rfl)) ?_
      refine RD.n rfl (p_sadd rfl rfl rfl (by simp; omega)) ?_
      refine RD.n rfl (p_sadd rfl rfl rfl (by simp; omega)) ?_
      refine RD.E rfl rfl rfl rfl (ERun.ofQR (q_bytes_str rfl Tryz.underlying57 Tryz.underlying5 Tryz.underlying9 rfl (i := 0) rfl (l := [UInt8.ofNat y.1.first, UInt8.ofNat (y.1.first >>> 8), UInt8.ofNat y.1.len, UInt8.ofNat (y.1.len >>> 8)]) (by show 0 + 4 ≤ 4; decide) rfl)) (by rintro _ _ ⟨rfl, rfl⟩; exact .inl (by exact Ent.pull_drop (is := [2]) rfl)) ?_
      rintro _ _ ⟨rfl, rfl⟩
      refine RD.n rfl (p_sadd rfl rfl rfl (by simp; omega)) ?_
      refine RD.n rfl (p_assign rfl (by conv => lhs; whnf)) ?_
      refine RD.nil ?_
      refine ⟨(), trivial, (LiveIs.cons (congrArg strV (bytes_hd y.1 hn)) LiveIs.nil), (by exact Ent.pull_drop (is := [2, 2]) rfl)⟩
     ·
      refine RD.E rfl rfl rfl rfl (ERun.ofQR (q_bytes_str rfl Tryz.underlying57 Tryz.underlying5 Tryz.underlying9 rfl (i := 0) rfl (l := [UInt8.ofNat y.1.first, UInt8.ofNat (y.1.first >>> 8), UInt8.ofNat y.1.len, UInt8.ofNat (y.1.len >>> 8)]) (by show 0 + 4 ≤ 4; decide) rfl)) (by rintro _ _ ⟨rfl, rfl⟩; exact .inl (by exact Ent.pull_drop (is := [2]) rfl)) ?_
      rintro _ _ ⟨rfl, rfl⟩
      refine RD.nil ?_
      refine RDT3.go ?_
      refine RD.E rfl rfl rfl rfl (ERun.ofQR (q_bytes_str rfl Tryz.underlying57 Tryz.underlying5 Tryz.underlying9 rfl (i := 1) rfl (l := [UInt8.ofNat y.1.name.length]) (by show 0 + 1 ≤ 1; decide) rfl)) (by rintro _ _ ⟨rfl, rfl⟩; exact .inl (by exact Ent.pull_drop (is := [2]) rfl)) ?_
      rintro _ _ ⟨rfl, rfl⟩
      refine RD.n rfl (p_sadd rfl rfl rfl (by show 1 + 1 ≤ _; exact Nat.le_of_ble_eq_true rfl)) ?_
      refine RD.n rfl (p_sadd rfl rfl rfl (by simp; omega)) ?_
      refine RD.n rfl (p_sadd rfl rfl rfl (by simp; omega)) ?_
      refine RD.n rfl (p_sadd rfl rfl rfl (by simp; omega)) ?_
      refine RD.n rfl (p_assign rfl (by conv => lhs; whnf)) ?_
      refine RD.nil ?_
      refine ⟨(), trivial, (LiveIs.cons (congrArg strV (bytes_hd y.1 hn)) LiveIs.nil), (by exact Ent.pull_drop (is := [2, 2]) rfl)⟩
    ·
     refine RD.E rfl rfl rfl rfl (ERun.ofQR (q_bytes_str rfl Tryz.underlying57 Tryz.underlying5 Tryz.underlying9 rfl (i := 0) rfl (l := [UInt8.ofNat y.1.first, UInt8.ofNat (y.1.first >>> 8), UInt8.ofNat y.1.len, UInt8.ofNat (y.1.len >>> 8)]) (by show 0 + 4 ≤ 4; decide) rfl)) (by rintro _ _ ⟨rfl, rfl⟩; exact .inl (by exact Ent.pull_drop (is := [2]) rfl)) ?_
     rintro _ _ ⟨rfl, rfl⟩
     refine RD.nil ?_
     refine RDT3.br ?_
     refine RD.nil ?_
     refine ⟨?_, ?_⟩
     ·
      refine RD.E rfl rfl rfl rfl (ERun.ofQR (q_bytes_str rfl Tryz.underlying57 Tryz.underlying5 Tryz.underlying9 rfl (i := 1) rfl (l := [UInt8.ofNat y.1.name.length]) (by show 0 + 1 ≤ 1; decide) rfl)) (by rintro _ _ ⟨rfl, rfl⟩; exact .inl (by exact Ent.pull_drop (is := [2]) rfl)) ?_
      rintro _ _ ⟨rfl, rfl⟩
      refine RD.nil ?_
      refine RDT3.go ?_
      refine RD.n rfl (p_sadd rfl rfl rfl (by show 1 + 1 ≤ _; exact Nat.le_of_ble_eq_true rfl)) ?_
      refine RD.n rfl (p_sadd rfl rfl rfl (by simp; omega)) ?_
      refine RD.C [] rfl rfl rfl rfl (c_call rfl rfl) (noughts_spec (16 - y.1.name.length) (by omega)) rfl (by rintro _ _ ⟨rfl, rfl⟩; exact .inl (by exact Ent.pull_drop (is := [2]) rfl)) ?_
      rintro _ _ ⟨rfl, rfl⟩
      refine RD.n rfl (p_sadd rfl rfl rfl (by simp; omega)) ?_
      refine RD.n rfl (p_sadd rfl rfl rfl (by simp; omega)) ?_
      refine RD.n rfl (p_assign rfl (by conv => lhs; whnf)) ?_
      refine RD.nil ?_
      refine ⟨(), trivial, (LiveIs.cons (congrArg strV (bytes_hd y.1 hn)) LiveIs.nil), (by exact Ent.pull_drop (is := [2, 2]) rfl)⟩
     ·
      refine RD.C [] rfl rfl rfl rfl (c_call rfl rfl) (noughts_spec (16 - y.1.name.length) (by omega)) rfl (by rintro _ _ ⟨rfl, rfl⟩; exact .inl (by exact Ent.pull_drop (is := [2]) rfl)) ?_
      rintro _ _ ⟨rfl, rfl⟩
      refine RD.nil ?_
      refine RDT3.go ?_
      refine RD.E rfl rfl rfl rfl (ERun.ofQR (q_bytes_str rfl Tryz.underlying57 Tryz.underlying5 Tryz.underlying9 rfl (i := 1) rfl (l := [UInt8.ofNat y.1.name.length]) (by show 0 + 1 ≤ 1; decide) rfl)) (by rintro _ _ ⟨rfl, rfl⟩; exact .inl (by exact Ent.pull_drop (is := [2]) rfl)) ?_
      rintro _ _ ⟨rfl, rfl⟩
      refine RD.n rfl (p_sadd rfl rfl rfl (by show 1 + 1 ≤ _; exact Nat.le_of_ble_eq_true rfl)) ?_
      refine RD.n rfl (p_sadd rfl rfl rfl (by simp; omega)) ?_
      refine RD.n rfl (p_sadd rfl rfl rfl (by simp; omega)) ?_
      refine RD.n rfl (p_sadd rfl rfl rfl (by simp; omega)) ?_
      refine RD.n rfl (p_assign rfl (by conv => lhs; whnf)) ?_
      refine RD.nil ?_
      refine ⟨(), trivial, (LiveIs.cons (congrArg strV (bytes_hd y.1 hn)) LiveIs.nil), (by exact Ent.pull_drop (is := [2, 2]) rfl)⟩
  ·
   refine RD.C [] rfl rfl rfl rfl (c_call rfl rfl) (noughts_spec (16 - y.1.name.length) (by omega)) rfl (by rintro _ _ ⟨rfl, rfl⟩; exact .inl (by exact Ent.pull_drop (is := [0]) rfl)) ?_
   rintro _ _ ⟨rfl, rfl⟩
   refine RD.nil ?_
   refine RDT3.br ?_
   refine RD.nil ?_
   refine ⟨?_, ?_⟩
   ·
    refine RD.E rfl rfl rfl rfl (e_buildSlice1 rfl Tryz.underlying57 ti_5 rfl (by conv => lhs; whnf) rfl) (by rintro _ _ ⟨_, rfl, rfl⟩; exact .inl (by exact Ent.pull_drop (is := [1]) rfl)) ?_
    rintro _ _ ⟨b8, rfl, rfl⟩
    refine RD.nil ?_
    refine RDT3.br ?_
    refine RD.nil ?_
    refine ⟨?_, ?_⟩
    ·
     refine RD.E rfl rfl rfl rfl (ERun.ofQR (q_bytes_str rfl Tryz.underlying57 Tryz.underlying5 Tryz.underlying9 rfl (i := 0) rfl (l := [UInt8.ofNat y.1.name.length]) (by show 0 + 1 ≤ 1; decide) rfl)) (by rintro _ _ ⟨rfl, rfl⟩; exact .inl (by exact Ent.pull_drop (is := [1]) rfl)) ?_
     rintro _ _ ⟨rfl, rfl⟩
     refine RD.nil ?_
     refine RDT3.go ?_
     refine RD.n rfl (p_sadd rfl rfl rfl (by show 1 + 1 ≤ _; exact Nat.le_of_ble_eq_true rfl)) ?_
     refine RD.n rfl (p_sadd rfl rfl rfl (by simp; omega)) ?_
     refine RD.n rfl (p_sadd rfl rfl rfl (by simp; omega)) ?_
     refine RD.E rfl rfl rfl rfl (e_buildSlice rfl Tryz.underlying57 ti_5 rfl (by decide) rfl (by simp)) (by rintro _ _ ⟨_, rfl, rfl⟩; exact .inl (by exact Ent.pull_drop (is := [2]) rfl)) ?_
     rintro _ _ ⟨b34, rfl, rfl⟩
     refine RD.E rfl rfl rfl rfl (ERun.ofQR (q_bytes_str rfl Tryz.underlying57 Tryz.underlying5 Tryz.underlying9 rfl (i := 0) rfl (l := [UInt8.ofNat y.1.first, UInt8.ofNat (y.1.first >>> 8), UInt8.ofNat y.1.len, UInt8.ofNat (y.1.len >>> 8)]) (by show 0 + 4 ≤ 4; decide) rfl)) (by rintro _ _ ⟨rfl, rfl⟩; exact .inl (by exact Ent.pull_drop (is := [2]) rfl)) ?_
     rintro _ _ ⟨rfl, rfl⟩
     refine RD.n rfl (p_sadd rfl rfl rfl (by simp; omega)) ?_
     refine RD.n rfl (p_assign rfl (by conv => lhs; whnf)) ?_
     refine RD.nil ?_
     refine ⟨(), trivial, (LiveIs.cons (congrArg strV (bytes_hd y.1 hn)) LiveIs.nil), (by exact Ent.pull_drop (is := [2, 2]) rfl)⟩
    ·
     refine RD.E rfl rfl rfl rfl (e_buildSlice rfl Tryz.underlying57 ti_5 rfl (by decide) rfl (by simp)) (by rintro _ _ ⟨_, rfl, rfl⟩; exact .inl (by exact Ent.pull_drop (is := [2]) rfl)) ?_
     rintro _ _ ⟨b34, rfl, rfl⟩
     refine RD.nil ?_
     refine RDT3.br ?_
     refine RD.nil ?_
     refine ⟨?_, ?_⟩
     ·
      refine RD.E rfl rfl rfl rfl (ERun.ofQR (q_bytes_str rfl Tryz.underlying57 Tryz.underlying5 Tryz.underlying9 rfl (i := 1) rfl (l := [UInt8.ofNat y.1.name.length]) (by show 0 + 1 ≤ 1; decide) rfl)) (by rintro _ _ ⟨rfl, rfl⟩; exact .inl (by exact Ent.pull_drop (is := [2]) rfl)) ?_
      rintro _ _ ⟨rfl, rfl⟩
      refine RD.nil ?_
      refine RDT3.go ?_
      refine RD.n rfl (p_sadd rfl rfl rfl (by show 1 + 1 ≤ _; exact Nat.le_of_ble_eq_true rfl)) ?_
      refine RD.n rfl (p_sadd rfl rfl rfl (by simp; omega)) ?_
      refine RD.n rfl (p_sadd rfl rfl rfl (by simp; omega)) ?_
      refine RD.E rfl rfl rfl rfl (ERun.ofQR (q_bytes_str rfl Tryz.underlying57 Tryz.underlying5 Tryz.underlying9 rfl (i := 0) rfl (l := [UInt8.ofNat y.1.first, UInt8.ofNat (y.1.first >>> 8), UInt8.ofNat y.1.len, UInt8.ofNat (y.1.len >>> 8)]) (by show 0 + 4 ≤ 4; decide) rfl)) (by rintro _ _ ⟨rfl, rfl⟩; exact .inl (by exact Ent.pull_drop (is := [2]) rfl)) ?_
      rintro _ _ ⟨rfl, rfl⟩
      refine RD.n rfl (p_sadd rfl rfl rfl (by simp; omega)) ?_
      refine RD.n rfl (p_assign rfl (by conv => lhs; whnf)) ?_
      refine RD.nil ?_
      refine ⟨(), trivial, (LiveIs.cons (congrArg strV (bytes_hd y.1 hn)) LiveIs.nil), (by exact Ent.pull_drop (is := [2, 2]) rfl)⟩
     ·
      refine RD.E rfl rfl rfl rfl (ERun.ofQR (q_bytes_str rfl Tryz.underlying57 Tryz.underlying5 Tryz.underlying9 rfl (i := 0) rfl (l := [UInt8.ofNat y.1.first, UInt8.ofNat (y.1.first >>> 8), UInt8.ofNat y.1.len, UInt8.ofNat (y.1.len >>> 8)]) (by show 0 + 4 ≤ 4; decide) rfl)) (by rintro _ _ ⟨rfl, rfl⟩; exact .inl (by exact Ent.pull_drop (is := [2]) rfl)) ?_
      rintro _ _ ⟨rfl, rfl⟩
      refine RD.nil ?_
      refine RDT3.go ?_
      refine RD.E rfl rfl rfl rfl (ERun.ofQR (q_bytes_str rfl Tryz.underlying57 Tryz.underlying5 Tryz.underlying9 rfl (i := 1) rfl (l := [UInt8.ofNat y.1.name.length]) (by show 0 + 1 ≤ 1; decide) rfl)) (by rintro _ _ ⟨rfl, rfl⟩; exact .inl (by exact Ent.pull_drop (is := [2]) rfl)) ?_
      rintro _ _ ⟨rfl, rfl⟩
      refine RD.n rfl (p_sadd rfl rfl rfl (by show 1 + 1 ≤ _; exact Nat.le_of_ble_eq_true rfl)) ?_
      refine RD.n rfl (p_sadd rfl rfl rfl (by simp; omega)) ?_
      refine RD.n rfl (p_sadd rfl rfl rfl (by simp; omega)) ?_
      refine RD.n rfl (p_sadd rfl rfl rfl (by simp; omega)) ?_
      refine RD.n rfl (p_assign rfl (by conv => lhs; whnf)) ?_
      refine RD.nil ?_
      refine ⟨(), trivial, (LiveIs.cons (congrArg strV (bytes_hd y.1 hn)) LiveIs.nil), (by exact Ent.pull_drop (is := [2, 2]) rfl)⟩
   ·
    refine RD.E rfl rfl rfl rfl (e_buildSlice rfl Tryz.underlying57 ti_5 rfl (by decide) rfl (by simp)) (by rintro _ _ ⟨_, rfl, rfl⟩; exact .inl (by exact Ent.pull_drop (is := [1]) rfl)) ?_
    rintro _ _ ⟨b34, rfl, rfl⟩
    refine RD.nil ?_
    refine RDT3.br ?_
    refine RD.nil ?_
    refine ⟨?_, ?_⟩
    ·
     refine RD.E rfl rfl rfl rfl (e_buildSlice1 rfl Tryz.underlying57 ti_5 rfl (by conv => lhs; whnf) rfl) (by rintro _ _ ⟨_, rfl, rfl⟩; exact .inl (by exact Ent.pull_drop (is := [2]) rfl)) ?_
     rintro _ _ ⟨b8, rfl, rfl⟩
     refine RD.nil ?_
     refine RDT3.br ?_
     refine RD.nil ?_
     refine ⟨?_, ?_⟩
     ·
      refine RD.E rfl rfl rfl rfl (ERun.ofQR (q_bytes_str rfl Tryz.underlying57 Tryz.underlying5 Tryz.underlying9 rfl (i := 0) rfl (l := [UInt8.ofNat y.1.name.length]) (by show 0 + 1 ≤ 1; decide) rfl)) (by rintro _ _ ⟨rfl, rfl⟩; exact .inl (by exact Ent.pull_drop (is := [2]) rfl)) ?_
      rintro _ _ ⟨rfl, rfl⟩
      refine RD.nil ?_
      refine RDT3.go ?_
      refine RD.n rfl (p_sadd rfl rfl rfl (by show 1 + 1 ≤ _; exact Nat.le_of_ble_eq_true rfl)) ?_
      refine RD.n rfl (p_sadd rfl rfl rfl (by simp; omega)) ?_
      refine RD.n rfl (p_sadd rfl rfl rfl (by simp; omega)) ?_
      refine RD.E rfl rfl rfl rfl (ERun.ofQR (q_bytes_str rfl Tryz.underlying57 Tryz.underlying5 Tryz.underlying9 rfl (i := 1) rfl (l := [UInt8.ofNat y.1.first, UInt8.ofNat (y.1.first >>> 8), UInt8.ofNat y.1.len, UInt8.ofNat (y.1.len >>> 8)]) (by show 0 + 4 ≤ 4; decide) rfl)) (by rintro _ _ ⟨rfl, rfl⟩; exact .inl (by exact Ent.pull_drop (is := [2]) rfl)) ?_
      rintro _ _ ⟨rfl, rfl⟩
      refine RD.n rfl (p_sadd rfl rfl rfl (by simp; omega)) ?_
      refine RD.n rfl (p_assign rfl (by conv => lhs; whnf)) ?_
      refine RD.nil ?_
      refine ⟨(), trivial, (LiveIs.cons (congrArg strV (bytes_hd y.1 hn)) LiveIs.nil), (by exact Ent.pull_drop (is := [2, 2]) rfl)⟩
     ·
      refine RD.E rfl rfl rfl rfl (ERun.ofQR (q_bytes_str rfl Tryz.underlying57 Tryz.underlying5 Tryz.underlying9 rfl (i := 1) rfl (l := [UInt8.ofNat y.1.first, UInt8.ofNat (y.1.first >>> 8), UInt8.ofNat y.1.len, UInt8.ofNat (y.1.len >>> 8)]) (by show 0 + 4 ≤ 4; decide) rfl)) (by rintro _ _ ⟨rfl, rfl⟩; exact .inl (by exact Ent.pull_drop (is := [2]) rfl)) ?_
      rintro _ _ ⟨rfl, rfl⟩
      refine RD.nil ?_
      refine RDT3.go ?_
      refine RD.E rfl rfl rfl rfl (ERun.ofQR (q_bytes_str rfl Tryz.underlying57 Tryz.underlying5 Tryz.underlying9 rfl (i := 0) rfl (l := [UInt8.ofNat y.1.name.length]) (by show 0 + 1 ≤ 1; decide) rfl)) (by rintro _ _ ⟨rfl, rfl⟩; exact .inl (by exact Ent.pull_drop (is := [2]) rfl)) ?_
      rintro _ _ ⟨rfl, rfl⟩
      refine RD.n rfl (p_sadd rfl rfl rfl (by show 1 + 1 ≤ _; exact Nat.le_of_ble_eq_true rfl)) ?_
      refine RD.n rfl (p_sadd rfl rfl rfl (by simp; omega)) ?_
      refine RD.n rfl (p_sadd rfl rfl rfl (by simp; omega)) ?_
      refine RD.n rfl (p_sadd rfl rfl rfl (by simp; omega)) ?_
      refine RD.n rfl (p_assign rfl (by conv => lhs; whnf)) ?_
      refine RD.nil ?_
      refine ⟨(), trivial, (LiveIs.cons (congrArg strV (bytes_hd y.1 hn)) LiveIs.nil), (by exact Ent.pull_drop (is := [2, 2]) rfl)⟩
    ·
     refine RD.E rfl rfl rfl rfl (ERun.ofQR (q_bytes_str rfl Tryz.underlying57 Tryz.underlying5 Tryz.underlying9 rfl (i := 0) rfl (l := [UInt8.ofNat y.1.first, UInt8.ofNat (y.1.first >>> 8), UInt8.ofNat y.1.len, UInt8.ofNat (y.1.len >>> 8)]) (by show 0 + 4 ≤ 4; decide) rfl)) (by rintro _ _ ⟨rfl, rfl⟩; exact .inl (by exact Ent.pull_drop (is := [1]) rfl)) ?_
     rintro _ _ ⟨rfl, rfl⟩
     refine RD.nil ?_
     refine RDT3.go ?_
     refine RD.E rfl rfl rfl rfl (e_buildSlice1 rfl Tryz.underlying57 ti_5 rfl (by conv => lhs; whnf) rfl) (by rintro _ _ ⟨_, rfl, rfl⟩; exact .inl (by exact Ent.pull_drop (is := [2]) rfl)) ?_
     rintro _ _ ⟨b8, rfl, rfl⟩
     refine RD.E rfl rfl rfl rfl (ERun.ofQR (q_bytes_str rfl Tryz.underlying57 Tryz.underlying5 Tryz.underlying9 rfl (i := 0) rfl (l := [UInt8.ofNat y.1.name.length]) (by show 0 + 1 ≤ 1; decide) rfl)) (by rintro _ _ ⟨rfl, rfl⟩; exact .inl (by exact Ent.pull_drop (is := [2]) rfl)) ?_
     rintro _ _ ⟨rfl, rfl⟩
     refine RD.n rfl (p_sadd rfl rfl rfl (by show 1 + 1 ≤ _; exact Nat.le_of_ble_eq_true rfl)) ?_
     refine RD.n rfl (p_sadd rfl rfl rfl (by simp; omega)) ?_
     refine RD.n rfl (p_sadd rfl rfl rfl (by simp; omega)) ?_
     refine RD.n rfl (p_sadd rfl rfl rfl (by simp; omega)) ?_
     refine RD.n rfl (p_assign rfl (by conv => lhs; whnf)) ?_
     refine RD.nil ?_
     refine ⟨(), trivial, (LiveIs.cons (congrArg strV (bytes_hd y.1 hn)) LiveIs.nil), (by exact Ent.pull_drop (is := [2, 2]) rfl)⟩
  ·
   refine RD.E rfl rfl rfl rfl (e_buildSlice rfl Tryz.underlying57 ti_5 rfl (by decide) rfl (by simp)) (by rintro _ _ ⟨_, rfl, rfl⟩; exact .inl (by exact Ent.pull_drop (is := [1]) rfl)) ?_
   rintro _ _ ⟨b34, rfl, rfl⟩
   refine RD.nil ?_
   refine RDT3.br3 ?_
   refine RD.nil ?_
   refine ⟨?_, ?_, ?_⟩
   ·
    refine RD.E rfl rfl rfl rfl (e_buildSlice1 rfl Tryz.underlying57 ti_5 rfl (by conv => lhs; whnf) rfl) (by rintro _ _ ⟨_, rfl, rfl⟩; exact .inl (by exact Ent.pull_drop (is := [2]) rfl)) ?_
    rintro _ _ ⟨b8, rfl, rfl⟩
    refine RD.nil ?_
    refine RDT3.br3 ?_
    refine RD.nil ?_
    refine ⟨?_, ?_, ?_⟩
    ·
     refine RD.E rfl rfl rfl rfl (ERun.ofQR (q_bytes_str rfl Tryz.underlying57 Tryz.underlying5 Tryz.underlying9 rfl (i := 0) rfl (l := [UInt8.ofNat y.1.name.length]) (by show 0 + 1 ≤ 1; decide) rfl)) (by rintro _ _ ⟨rfl, rfl⟩; exact .inl (by exact Ent.pull_drop (is := [2]) rfl)) ?_
     rintro _ _ ⟨rfl, rfl⟩
     refine RD.nil ?_
     refine RDT3.br ?_
     refine RD.n rfl (p_sadd rfl rfl rfl (by show 1 + 1 ≤ _; exact Nat.le_of_ble_eq_true rfl)) ?_
     refine RD.n rfl (p_sadd rfl rfl rfl (by simp; omega)) ?_
     refine RD.nil ?_
     refine ⟨?_, ?_⟩
     ·
      refine RD.C [] rfl rfl rfl rfl (c_call rfl rfl) (noughts_spec (16 - y.1.name.length) (by omega)) rfl (by rintro _ _ ⟨rfl, rfl⟩; exact .inl (by exact Ent.pull_drop (is := [2]) rfl)) ?_
      rintro _ _ ⟨rfl, rfl⟩
      refine RD.nil ?_
      refine RDT3.go ?_
      refine RD.n rfl (p_sadd rfl rfl rfl (by simp; omega)) ?_
      refine RD.E rfl rfl rfl rfl (ERun.ofQR (q_bytes_str rfl Tryz.underlying57 Tryz.underlying5 Tryz.underlying9 rfl (i := 1) rfl (l := [UInt8.ofNat y.1.first, UInt8.ofNat (y.1.first >>> 8), UInt8.ofNat y.1.len, UInt8.ofNat (y.1.len >>> 8)]) (by show 0 + 4 ≤ 4; decide) rfl)) (by rintro _ _ ⟨rfl, rfl⟩; exact .inl (by exact Ent.pull_drop (is := [2]) rfl)) ?_
      rintro _ _ ⟨rfl, rfl⟩
      refine RD.n rfl (p_sadd rfl rfl rfl (by simp; omega)) ?_
      refine RD.n rfl (p_assign rfl (by conv => lhs; whnf)) ?_
      refine RD.nil ?_
      refine ⟨(), trivial, (LiveIs.cons (congrArg strV (bytes_hd y.1 hn)) LiveIs.nil), (by exact Ent.pull_drop (is := [2, 2]) rfl)⟩
     ·
      refine RD.E rfl rfl rfl rfl (ERun.ofQR (q_bytes_str rfl Tryz.underlying57 Tryz.underlying5 Tryz.underlying9 rfl (i := 1) rfl (l := [UInt8.ofNat y.1.first, UInt8.ofNat (y.1.first >>> 8), UInt8.ofNat y.1.len, UInt8.ofNat (y.1.len >>> 8)]) (by show 0 + 4 ≤ 4; decide) rfl)) (by rintro _ _ ⟨rfl, rfl⟩; exact .inl (by exact Ent.pull_drop (is := [2]) rfl)) ?_
      rintro _ _ ⟨rfl, rfl⟩
      refine RD.nil ?_
      refine RDT3.go ?_
      refine RD.C [] rfl rfl rfl rfl (c_call rfl rfl) (noughts_spec (16 - y.1.name.length) (by omega)) rfl (by rintro _ _ ⟨rfl, rfl⟩; exact .inl (by exact Ent.pull_drop (is := [2]) rfl)) ?_
      rintro _ _ ⟨rfl, rfl⟩
      refine RD.n rfl (p_sadd rfl rfl rfl (by simp; omega)) ?_
      refine RD.n rfl (p_sadd rfl rfl rfl (by simp; omega)) ?_
      refine RD.n rfl (p_assign rfl (by conv => lhs; whnf)) ?_
      refine RD.nil ?_
      refine ⟨(), trivial, (LiveIs.cons (congrArg strV (bytes_hd y.1 hn)) LiveIs.nil), (by exact Ent.pull_drop (is := [2, 2]) rfl)⟩
    ·
     refine RD.C [] rfl rfl rfl rfl (c_call rfl rfl) (noughts_spec (16 - y.1.name.length) (by omega)) rfl (by rintro _ _ ⟨rfl, rfl⟩; exact .inl (by exact Ent.pull_drop (is := [2]) rfl)) ?_
     rintro _ _ ⟨rfl, rfl⟩
     refine RD.nil ?_
     refine RDT3.br ?_
     refine RD.nil ?_
     refine ⟨?_, ?_⟩
     ·
      refine RD.E rfl rfl rfl rfl (ERun.ofQR (q_bytes_str rfl Tryz.underlying57 Tryz.underlying5 Tryz.underlying9 rfl (i := 0) rfl (l := [UInt8.ofNat y.1.name.length]) (by show 0 + 1 ≤ 1; decide) rfl)) (by rintro _ _ ⟨rfl, rfl⟩; exact .inl (by exact Ent.pull_drop (is := [2]) rfl)) ?_
      rintro _ _ ⟨rfl, rfl⟩
      refine RD.nil ?_
      refine RDT3.go ?_
      refine RD.n rfl (p_sadd rfl rfl rfl (by show 1 + 1 ≤ _; exact Nat.le_of_ble_eq_true rfl)) ?_
      refine RD.n rfl (p_sadd rfl rfl rfl (by simp; omega)) ?_
      refine RD.n rfl (p_sadd rfl rfl rfl (by simp; omega)) ?_
      refine RD.E rfl rfl rfl rfl (ERun.ofQR (q_bytes_str rfl Tryz.underlying57 Tryz.underlying5 Tryz.underlying9 rfl (i := 1) rfl (l := [UInt8.ofNat y.1.first, UInt8.ofNat (y.1.first >>> 8), UInt8.ofNat y.1.len, UInt8.ofNat (y.1.len >>> 8)]) (by show 0 + 4 ≤ 4; decide) rfl)) (by rintro _ _ ⟨rfl, rfl⟩; exact .inl (by exact Ent.pull_drop (is := [2]) rfl)) ?_
      rintro _ _ ⟨rfl, rfl⟩
      refine RD.n rfl (p_sadd rfl rfl rfl (by simp; omega)) ?_
      refine RD.n rfl (p_assign rfl (by conv => lhs; whnf)) ?_
      refine RD.nil ?_
      refine ⟨(), trivial, (LiveIs.cons (congrArg strV (bytes_hd y.1 hn)) LiveIs.nil), (by exact Ent.pull_drop (is := [2, 2]) rfl)⟩
     ·
      refine RD.E rfl rfl rfl rfl (ERun.ofQR (q_bytes_str rfl Tryz.underlying57 Tryz.underlying5 Tryz.underlying9 rfl (i := 1) rfl (l := [UInt8.ofNat y.1.first, UInt8.ofNat (y.1.first >>> 8), UInt8.ofNat y.1.len, UInt8.ofNat (y.1.len >>> 8)]) (by show 0 + 4 ≤ 4; decide) rfl)) (by rintro _ _ ⟨rfl, rfl⟩; exact .inl (by exact Ent.pull_drop (is := [2]) rfl)) ?_
      rintro _ _ ⟨rfl, rfl⟩
      refine RD.nil ?_
      refine RDT3.go ?_
      refine RD.E rfl rfl rfl rfl (ERun.ofQR (q_bytes_str rfl Tryz.underlying57 Tryz.underlying5 Tryz.underlying9 rfl (i := 0) rfl (l := [UInt8.ofNat y.1.name.length]) (by show 0 + 1 ≤ 1; decide) rfl)) (by rintro _ _ ⟨rfl, rfl⟩; exact .inl (by exact Ent.pull_drop (is := [2]) rfl)) ?_
      rintro _ _ ⟨rfl, rfl⟩
      refine RD.n rfl (p_sadd rfl rfl rfl (by show 1 + 1 ≤ _; exact Nat.le_of_ble_eq_true rfl)) ?_
      refine RD.n rfl (p_sadd rfl rfl rfl (by simp; omega)) ?_
      refine RD.n rfl (p_sadd rfl rfl rfl (by simp; omega)) ?_
      refine RD.n rfl (p_sadd rfl rfl rfl (by simp; omega)) ?_
      refine RD.n rfl (p_assign rfl (by conv => lhs; whnf)) ?_
      refine RD.nil ?_
      refine ⟨(), trivial, (LiveIs.cons (congrArg strV (bytes_hd y.1 hn)) LiveIs.nil), (by exact Ent.pull_drop (is := [2, 2]) rfl)⟩
    ·
     refine RD.E rfl rfl rfl rfl (ERun.ofQR (q_bytes_str rfl Tryz.underlying57 Tryz.underlying5 Tryz.underlying9 rfl (i := 1) rfl (l := [UInt8.ofNat y.1.first, UInt8.ofNat (y.1.first >>> 8), UInt8.ofNat y.1.len, UInt8.ofNat (y.1.len >>> 8)]) (by show 0 + 4 ≤ 4; decide) rfl)) (by rintro _ _ ⟨rfl, rfl⟩; exact .inl (by exact Ent.pull_drop (is := [2]) rfl)) ?_
     rintro _ _ ⟨rfl, rfl⟩
     refine RD.nil ?_
     refine RDT3.br ?_
     refine RD.nil ?_
     refine ⟨?_, ?_⟩
     ·
      refine RD.E rfl rfl rfl rfl (ERun.ofQR (q_bytes_str rfl Tryz.underlying57 Tryz.underlying5 Tryz.underlying9 rfl (i := 0) rfl (l := [UInt8.ofNat y.1.name.length]) (by show 0 + 1 ≤ 1; decide) rfl)) (by rintro _ _ ⟨rfl, rfl⟩; exact .inl (by exact Ent.pull_drop (is := [2]) rfl)) ?_
      rintro _ _ ⟨rfl, rfl⟩
      refine RD.nil ?_
      refine RDT3.go ?_
      refine RD.n rfl (p_sadd rfl rfl rfl (by show 1 + 1 ≤ _; exact Nat.le_of_ble_eq_true rfl)) ?_
      refine RD.n rfl (p_sadd rfl rfl rfl (by simp; omega)) ?_
      refine RD.C [] rfl rfl rfl rfl (c_call rfl rfl) (noughts_spec (16 - y.1.name.length) (by omega)) rfl (by rintro _ _ ⟨rfl, rfl⟩; exact .inl (by exact Ent.pull_drop (is := [2]) rfl)) ?_
      rintro _ _ ⟨rfl, rfl⟩
      refine RD.n rfl (p_sadd rfl rfl rfl (by simp; omega)) ?_
      refine RD.n rfl (p_sadd rfl rfl rfl (by simp; omega)) ?_
      refine RD.n rfl (p_assign rfl (by conv => lhs; whnf)) ?_
      refine RD.nil ?_
      refine ⟨(), trivial, (LiveIs.cons (congrArg strV (bytes_hd y.1 hn)) LiveIs.nil), (by exact Ent.pull_drop (is := [2, 2]) rfl)⟩
     ·
      refine RD.C [] rfl rfl rfl rfl (c_call rfl rfl) (noughts_spec (16 - y.1.name.length) (by omega)) rfl (by rintro _ _ ⟨rfl, rfl⟩; exact .inl (by exact Ent.pull_drop (is := [2]) rfl)) ?_
      rintro _ _ ⟨rfl, rfl⟩
      refine RD.nil ?_
      refine RDT3.go ?_
      refine RD.E rfl rfl rfl rfl (ERun.ofQR (q_bytes_str rfl Tryz.underlying57 Tryz.underlying5 Tryz.underlying9 rfl (i := 0) rfl (l := [UInt8.ofNat y.1.name.length]) (by show 0 + 1 ≤ 1; decide) rfl)) (by rintro _ _ ⟨rfl, rfl⟩; exact .inl (by exact Ent.pull_drop (is := [2]) rfl)) ?_
      rintro _ _ ⟨rfl, rfl⟩
      refine RD.n rfl (p_sadd rfl rfl rfl (by show 1 + 1 ≤ _; exact Nat.le_of_ble_eq_true rfl)) ?_
      refine RD.n rfl (p_sadd rfl rfl rfl (by simp; omega)) ?_
      refine RD.n rfl (p_sadd rfl rfl rfl (by simp; omega)) ?_
      refine RD.n rfl (p_sadd rfl rfl rfl (by simp; omega)) ?_
      refine RD.n rfl (p_assign rfl (by conv => lhs; whnf)) ?_
      refine RD.nil ?_
      refine ⟨(), trivial, (LiveIs.cons (congrArg strV (bytes_hd y.1 hn)) LiveIs.nil), (by exact Ent.pull_drop (is := [2, 2]) rfl)⟩
   ·
    refine RD.C [] rfl rfl rfl rfl (c_call rfl rfl) (noughts_spec (16 - y.1.name.length) (by omega)) rfl (by rintro _ _ ⟨rfl, rfl⟩; exact .inl (by exact Ent.pull_drop (is := [1]) rfl)) ?_
    rintro _ _ ⟨rfl, rfl⟩
    refine RD.nil ?_
    refine RDT3.br ?_
    refine RD.nil ?_
    refine ⟨?_, ?_⟩
    ·
     refine RD.E rfl rfl rfl rfl (e_buildSlice1 rfl Tryz.underlying57 ti_5 rfl (by conv => lhs; whnf) rfl) (by rintro _ _ ⟨_, rfl, rfl⟩; exact .inl (by exact Ent.pull_drop (is := [2]) rfl)) ?_
     rintro _ _ ⟨b8, rfl, rfl⟩
     refine RD.nil ?_
     refine RDT3.br ?_
     refine RD.nil ?_
     refine ⟨?_, ?_⟩
     ·
      refine RD.E rfl rfl rfl rfl (ERun.ofQR (q_bytes_str rfl Tryz.underlying57 Tryz.underlying5 Tryz.underlying9 rfl (i := 0) rfl (l := [UInt8.ofNat y.1.name.length]) (by show 0 + 1 ≤ 1; decide) rfl)) (by rintro _ _ ⟨rfl, rfl⟩; exact .inl (by exact Ent.pull_drop (is := [2]) rfl)) ?_
      rintro _ _ ⟨rfl, rfl⟩
      refine RD.nil ?_
      refine RDT3.go ?_
      refine RD.n rfl (p_sadd rfl rfl rfl (by show 1 + 1 ≤ _; exact Nat.le_of_ble_eq_true rfl)) ?_
      refine RD.n rfl (p_sadd rfl rfl rfl (by simp; omega)) ?_
      refine RD.n rfl (p_sadd rfl rfl rfl (by simp; omega)) ?_
      refine RD.E rfl rfl rfl rfl (ERun.ofQR (q_bytes_str rfl Tryz.underlying57 Tryz.underlying5 Tryz.underlying9 rfl (i := 1) rfl (l := [UInt8.ofNat y.1.first, UInt8.ofNat (y.1.first >>> 8), UInt8.ofNat y.1.len, UInt8.ofNat (y.1.len >>> 8)]) (by show 0 + 4 ≤ 4; decide) rfl)) (by rintro _ _ ⟨rfl, rfl⟩; exact .inl (by exact Ent.pull_drop (is := [2]) rfl)) ?_
      rintro _ _ ⟨rfl, rfl⟩
      refine RD.n rfl (p_sadd rfl rfl rfl (by simp; omega)) ?_
      refine RD.n rfl (p_assign rfl (by conv => lhs; whnf)) ?_
      refine RD.nil ?_
      refine ⟨(), trivial, (LiveIs.cons (congrArg strV (bytes_hd y.1 hn)) LiveIs.nil), (by exact Ent.pull_drop (is := [2, 2]) rfl)⟩
     ·
      refine RD.E rfl rfl rfl rfl (ERun.ofQR (q_bytes_str rfl Tryz.underlying57 Tryz.underlying5 Tryz.underlying9 rfl (i := 1) rfl (l := [UInt8.ofNat y.1.first, UInt8.ofNat (y.1.first >>> 8), UInt8.ofNat y.1.len, UInt8.ofNat (y.1.len >>> 8)]) (by show 0 + 4 ≤ 4; decide) rfl)) (by rintro _ _ ⟨rfl, rfl⟩; exact .inl (by exact Ent.pull_drop (is := [2]) rfl)) ?_
      rintro _ _ ⟨rfl, rfl⟩
      refine RD.nil ?_
      refine RDT3.go ?_
      refine RD.E rfl rfl rfl rfl (ERun.ofQR (q_bytes_str rfl Tryz.underlying57 Tryz.underlying5 Tryz.underlying9 rfl (i := 0) rfl (l := [UInt8.ofNat y.1.name.length]) (by show 0 + 1 ≤ 1; decide) rfl)) (by rintro _ _ ⟨rfl, rfl⟩; exact .inl (by exact Ent.pull_drop (is := [2]) rfl)) ?_
      rintro _ _ ⟨rfl, rfl⟩
      refine RD.n rfl (p_sadd rfl rfl rfl (by show 1 + 1 ≤ _; exact Nat.le_of_ble_eq_true rfl)) ?_
      refine RD.n rfl (p_sadd rfl rfl rfl (by simp; omega)) ?_
      refine RD.n rfl (p_sadd rfl rfl rfl (by simp; omega)) ?_
      refine RD.n rfl (p_sadd rfl rfl rfl (by simp; omega)) ?_
      refine RD.n rfl (p_assign rfl (by conv => lhs; whnf)) ?_
      refine RD.nil ?_
      refine ⟨(), trivial, (LiveIs.cons (congrArg strV (bytes_hd y.1 hn)) LiveIs.nil), (by exact Ent.pull_drop (is := [2, 2]) rfl)⟩
    ·
     refine RD.E rfl rfl rfl rfl (ERun.ofQR (q_bytes_str rfl Tryz.underlying57 Tryz.underlying5 Tryz.underlying9 rfl (i := 0) rfl (l := [UInt8.ofNat y.1.first, UInt8.ofNat (y.1.first >>> 8), UInt8.ofNat y.1.len, UInt8.ofNat (y.1.len >>> 8)]) (by show 0 + 4 ≤ 4; decide) rfl)) (by rintro _ _ ⟨rfl, rfl⟩; exact .inl (by exact Ent.pull_drop (is := [1]) rfl)) ?_
     rintro _ _ ⟨rfl, rfl⟩
     refine RD.nil ?_
     refine RDT3.go ?_
     refine RD.E rfl rfl rfl rfl (e_buildSlice1 rfl Tryz.underlying57 ti_5 rfl (by conv => lhs; whnf) rfl) (by rintro _ _ ⟨_, rfl, rfl⟩; exact .inl (by exact Ent.pull_drop (is := [2]) rfl)) ?_
     rintro _ _ ⟨b8, rfl, rfl⟩
     refine RD.E rfl rfl rfl rfl (ERun.ofQR (q_bytes_str rfl Tryz.underlying57 Tryz.underlying5 Tryz.underlying9 rfl (i := 0) rfl (l := [UInt8.ofNat y.1.name.length]) (by show 0 + 1 ≤ 1; decide) rfl)) (by rintro _ _ ⟨rfl, rfl⟩; exact .inl (by exact Ent.pull_drop (is := [2]) rfl)) ?_
     rintro _ _ ⟨rfl, rfl⟩
     refine RD.n rfl (p_sadd rfl rfl rfl (by show 1 + 1 ≤ _; exact Nat.le_of_ble_eq_true rfl)) ?_
     refine RD.n rfl (p_sadd rfl rfl rfl (by simp; omega)) ?_
     refine RD.n rfl (p_sadd rfl rfl rfl (by simp; omega)) ?_
     refine RD.n rfl (p_sadd rfl rfl rfl (by simp; omega)) ?_
     refine RD.n rfl (p_assign rfl (by conv => lhs; whnf)) ?_
     refine RD.nil ?_
     refine ⟨(), trivial, (LiveIs.cons (congrArg strV (bytes_hd y.1 hn)) LiveIs.nil), (by exact Ent.pull_drop (is := [2, 2]) rfl)⟩
   ·
    refine RD.E rfl rfl rfl rfl (ERun.ofQR (q_bytes_str rfl Tryz.underlying57 Tryz.underlying5 Tryz.underlying9 rfl (i := 0) rfl (l := [UInt8.ofNat y.1.first, UInt8.ofNat (y.1.first >>> 8), UInt8.ofNat y.1.len, UInt8.ofNat (y.1.len >>> 8)]) (by show 0 + 4 ≤ 4; decide) rfl)) (by rintro _ _ ⟨rfl, rfl⟩; exact .inl (by exact Ent.pull_drop (is := [1]) rfl)) ?_
    rintro _ _ ⟨rfl, rfl⟩
    refine RD.nil ?_
    refine RDT3.br ?_
    refine RD.nil ?_
    refine ⟨?_, ?_⟩
    ·
     refine RD.E rfl rfl rfl rfl (e_buildSlice1 rfl Tryz.underlying57 ti_5 rfl (by conv => lhs; whnf) rfl) (by rintro _ _ ⟨_, rfl, rfl⟩; exact .inl (by exact Ent.pull_drop (is := [2]) rfl)) ?_
     rintro _ _ ⟨b8, rfl, rfl⟩
     refine RD.nil ?_
     refine RDT3.br ?_
     refine RD.nil ?_
     refine ⟨?_, ?_⟩
     ·
      refine RD.E rfl rfl rfl rfl (ERun.ofQR (q_bytes_str rfl Tryz.underlying57 Tryz.underlying5 Tryz.underlying9 rfl (i := 0) rfl (l := [UInt8.ofNat y.1.name.length]) (by show 0 + 1 ≤ 1; decide) rfl)) (by rintro _ _ ⟨rfl, rfl⟩; exact .inl (by exact Ent.pull_drop (is := [2]) rfl)) ?_
      rintro _ _ ⟨rfl, rfl⟩
      refine RD.nil ?_
      refine RDT3.go ?_
      refine RD.n rfl (p_sadd rfl rfl rfl (by show 1 + 1 ≤ _; exact Nat.le_of_ble_eq_true rfl)) ?_
      refine RD.n rfl (p_sadd rfl rfl rfl (by simp; omega)) ?_
      refine RD.C [] rfl rfl rfl rfl (c_call rfl rfl) (noughts_spec (16 - y.1.name.length) (by omega)) rfl (by rintro _ _ ⟨rfl, rfl⟩; exact .inl (by exact Ent.pull_drop (is := [2]) rfl)) ?_
      rintro _ _ ⟨rfl, rfl⟩
      refine RD.n rfl (p_sadd rfl rfl rfl (by simp; omega)) ?_
      refine RD.n rfl (p_sadd rfl rfl rfl (by simp; omega)) ?_
      refine RD.n rfl (p_assign rfl (by conv => lhs; whnf)) ?_
      refine RD.nil ?_
      refine ⟨(), trivial, (LiveIs.cons (congrArg strV (bytes_hd y.1 hn)) LiveIs.nil), (by exact Ent.pull_drop (is := [2, 2]) rfl)⟩
     ·
      refine RD.C [] rfl rfl rfl rfl (c_call rfl rfl) (noughts_spec (16 - y.1.name.length) (by omega)) rfl (by rintro _ _ ⟨rfl, rfl⟩; exact .inl (by exact Ent.pull_drop (is := [2]) rfl)) ?_
      rintro _ _ ⟨rfl, rfl⟩
      refine RD.nil ?_
      refine RDT3.go ?_
      refine RD.E rfl rfl rfl rfl (ERun.ofQR (q_bytes_str rfl Tryz.underlying57 Tryz.underlying5 Tryz.underlying9 rfl (i := 0) rfl (l := [UInt8.ofNat y.1.name.length]) (by show 0 + 1 ≤ 1; decide) rfl)) (by rintro _ _ ⟨rfl, rfl⟩; exact .inl (by exact Ent.pull_drop (is := [2]) rfl)) ?_
      rintro _ _ ⟨rfl, rfl⟩
      refine RD.n rfl (p_sadd rfl rfl rfl (by show 1 + 1 ≤ _; exact Nat.le_of_ble_eq_true rfl)) ?_
      refine RD.n rfl (p_sadd rfl rfl rfl (by simp; omega)) ?_
      refine RD.n rfl (p_sadd rfl rfl rfl (by simp; omega)) ?_
      refine RD.n rfl (p_sadd rfl rfl rfl (by simp; omega)) ?_
      refine RD.n rfl (p_assign rfl (by conv => lhs; whnf)) ?_
      refine RD.nil ?_
      refine ⟨(), trivial, (LiveIs.cons (congrArg strV (bytes_hd y.1 hn)) LiveIs.nil), (by exact Ent.pull_drop (is := [2, 2]) rfl)⟩
    ·
     refine RD.C [] rfl rfl rfl rfl (c_call rfl rfl) (noughts_spec (16 - y.1.name.length) (by omega)) rfl (by rintro _ _ ⟨rfl, rfl⟩; exact .inl (by exact Ent.pull_drop (is := [1]) rfl)) ?_
     rintro _ _ ⟨rfl, rfl⟩
     refine RD.nil ?_
     refine RDT3.go ?_
     refine RD.E rfl rfl rfl rfl (e_buildSlice1 rfl Tryz.underlying57 ti_5 rfl (by conv => lhs; whnf) rfl) (by rintro _ _ ⟨_, rfl, rfl⟩; exact .inl (by exact Ent.pull_drop (is := [2]) rfl)) ?_
     rintro _ _ ⟨b8, rfl, rfl⟩
     refine RD.E rfl rfl rfl rfl (ERun.ofQR (q_bytes_str rfl Tryz.underlying57 Tryz.underlying5 Tryz.underlying9 rfl (i := 0) rfl (l := [UInt8.ofNat y.1.name.length]) (by show 0 + 1 ≤ 1; decide) rfl)) (by rintro _ _ ⟨rfl, rfl⟩; exact .inl (by exact Ent.pull_drop (is := [2]) rfl)) ?_
     rintro _ _ ⟨rfl, rfl⟩
     refine RD.n rfl (p_sadd rfl rfl rfl (by show 1 + 1 ≤ _; exact Nat.le_of_ble_eq_true rfl)) ?_
     refine RD.n rfl (p_sadd rfl rfl rfl (by simp; omega)) ?_
     refine RD.n rfl (p_sadd rfl rfl rfl (by simp; omega)) ?_
     refine RD.n rfl (p_sadd rfl rfl rfl (by simp; omega)) ?_
     refine RD.n rfl (p_assign rfl (by conv => lhs; whnf)) ?_
     refine RD.nil ?_
     refine ⟨(), trivial, (LiveIs.cons (congrArg strV (bytes_hd y.1 hn)) LiveIs.nil), (by exact Ent.pull_drop (is := [2, 2]) rfl)⟩
 ·
  rintro ⟨⟩ e2 -
  refine T.seq fun K3 hK3 => ?_
  refine T.region (l := [0, 1, 2, 3, 4, 5, 6, 7, 8]) rfl ?_
  refine RN.m rfl ?_
  refine RN.m rfl ?_
  refine RN.E rfl rfl rfl rfl (e_str_bytes rfl Tryz.underlying9 Tryz.underlying57 Tryz.underlying5 rfl (by rw [hdT_length]; decide)) ?_
  rintro _ _ ⟨b39, cap39, hcl39, hcm39, rfl, rfl⟩
  refine RN.known 39 rfl (show _ = slc b39 0 22 cap39 from congrArg (fun n => slc b39 0 n cap39) (hdT_length y.1)) ?_
  refine RN.C [0] rfl rfl rfl rfl (c_call rfl rfl) (RSum_spec b39 0 22 cap39 5 _ (hdT y.1) (hdT_length _) (by decide) (by intro i x hx; have hi := (List.getElem?_eq_some_iff.1 hx).1; rw [Nat.zero_add, List.getElem?_append_left (by simpa using hi), List.getElem?_map, hx]; rfl)) rfl ?_
  rintro _ _ ⟨rfl, rfl⟩
  refine RN.C [] rfl rfl rfl rfl (c_call rfl rfl) (number_spec (crcOf 0 (hdT y.1)) (crcOf_lt _)) rfl ?_
  rintro _ _ ⟨rfl, rfl⟩
  refine RN.p rfl (p_sadd rfl rfl rfl (by simp [hdT_length, leN_length])) ?_
  refine RN.C [] rfl rfl rfl rfl (c_call rfl rfl) (noughts_spec 6 (by decide)) rfl ?_
  rintro _ _ ⟨rfl, rfl⟩
  refine RN.p rfl (p_sadd rfl rfl rfl (by simp [hdT_length, leN_length])) ?_
  refine RN.a rfl ?_
  refine RN.nil ?_
  refine hK3 _ _ ?_
  refine T.ret ?_
  refine bodyQ_ret [] (RetRun.tmp RetRun.nil) ⟨congrArg strV (by unfold laidT; rfl), rfl⟩ (Ent.pull_drop (is := [2]) rfl)

end Go.Proofs.YtbbgajjonodlfaaGreat
