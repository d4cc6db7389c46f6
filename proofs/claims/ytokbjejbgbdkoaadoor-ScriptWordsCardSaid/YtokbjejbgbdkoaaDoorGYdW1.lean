/-
  Words: walked.
-/
import Derived.Test.YtokbjejbgbdkoaaDoorGYdTy
import Derived.Test.YtokbjejbgbdkoaaDoorGModelU
set_option linter.unusedVariables false
set_option linter.unusedSimpArgs false
namespace Go.Proofs.YtokbjejbgbdkoaaDoor
open Go Go.Sl Go.Proofs
set_option maxRecDepth 20000
open Go.Mo
theorem blank_of {l : List UInt8} {i : Nat} (hi : i < l.length) (h : (dec l i).1 = 32 ∨ (dec l i).1 = 9) : blankL l[i] := h.elim (fun g => .inl ((dec_is hi (by omega)).1 g)) fun g => .inr ((dec_is hi (by omega)).1 g)
theorem not_blank {l : List UInt8} {i : Nat} (hi : i < l.length) (h : ¬ ((dec l i).1 = 32 ∨ (dec l i).1 = 9)) : ¬ blankL l[i] := fun g => h (g.elim (fun g => .inl ((dec_is hi (by omega)).2 g)) fun g => .inr ((dec_is hi (by omega)).2 g))
theorem not_stop {l : List UInt8} {i : Nat} (hi : i < l.length) (h : ¬ ((dec l i).1 = 32 ∨ (dec l i).1 = 9)) (h2 : ¬ (dec l i).1 = 10) : ¬ stopL l[i] := fun g => g.elim (not_blank hi h) fun g => h2 ((dec_is hi (by omega)).2 g)
theorem stop_blank {l : List UInt8} {i : Nat} (hi : i < l.length) (h : (dec l i).1 = 32 ∨ (dec l i).1 = 9) : stopL l[i] := .inl (blank_of hi h)
theorem stop_nl {l : List UInt8} {i : Nat} (hi : i < l.length) (h : (dec l i).1 = 10) : stopL l[i] := .inr ((dec_is hi (by omega)).1 h)

theorem Blank_spec (r : Nat) : Ctr Tryd.prog 11 [.int .i32 (r : Int)] [] (fun w Ps => w = .bool (decide (r = 32 ∨ r = 9)) ∧ Ps = []) := by
  refine Ctr.of_body Tryd.func11 rfl (by kernel_rfl) Tryd.ntmps11 rfl rfl (fun Fr => ?_)
  refine T.seq fun K1 hK1 => ?_
  refine T.region (l := [0]) rfl ?_
  refine RN.qq rfl rfl rfl rfl (PRun.q (p_assign rfl (by conv => lhs; whnf))) ?_
  refine RN.nil ?_
  refine hK1 _ _ ?_
  refine T.seq fun K2 hK2 => ?_
  refine T.region (l := [0, 1, 2, 3, 4, 5, 6]) rfl ?_
  refine RN.qq rfl rfl rfl rfl (PRun.q (p_move rfl (by conv => lhs; whnf))) ?_
  refine RN.qq rfl rfl rfl rfl (PRun.q (p_eql rfl rfl rfl)) ?_
  refine RN.qq rfl rfl rfl rfl (PRun.q (p_move rfl (by conv => lhs; whnf))) ?_
  first | refine RN.split_dec 5 rfl (fun h5 => ?_) (fun h5 => ?_) | refine RN.split 5 rfl (fun h5 => ?_) (fun h5 => ?_)
  ·
    refine RN.O rfl rfl rfl rfl ?_
    refine RN.O rfl rfl rfl rfl ?_
    refine RN.qq rfl rfl rfl rfl (PRun.q (p_pick_t rfl rfl (by conv => lhs; whnf))) ?_
    refine RN.qq rfl rfl rfl rfl (PRun.q (p_assign rfl (by conv => lhs; whnf))) ?_
    refine RN.nil ?_
    refine hK2 _ _ ?_
    refine T.ret ?_
    refine bodyQ_ret [] (RetRun.tmp RetRun.nil) ⟨congrArg Value.bool (decide_eq_true (.inl (by omega))).symm, rfl⟩ (Ent.refl _)
  ·
    refine RN.qq rfl rfl rfl rfl (PRun.q (p_move rfl (by conv => lhs; whnf))) ?_
    refine RN.qq rfl rfl rfl rfl (PRun.q (p_eql rfl rfl rfl)) ?_
    refine RN.qq rfl rfl rfl rfl (PRun.q (p_pick_f rfl rfl (by conv => lhs; whnf))) ?_
    refine RN.qq rfl rfl rfl rfl (PRun.q (p_assign rfl (by conv => lhs; whnf))) ?_
    refine RN.nil ?_
    refine hK2 _ _ ?_
    refine T.ret ?_
    refine bodyQ_ret [] (RetRun.tmp RetRun.nil) ⟨congrArg Value.bool (decide_eq_decide.2 ⟨fun g => .inr (by omega), fun g => by omega⟩), rfl⟩ (Ent.refl _)

theorem RBlank_spec (r : Nat) : Ctr Tryd.prog 12 [.int .u8 (r : Int)] [] (fun w Ps => w = .bool (decide (r = 32 ∨ r = 9)) ∧ Ps = []) := by
  refine Ctr.of_body Tryd.func12 rfl (by kernel_rfl) Tryd.ntmps12 rfl rfl (fun Fr => ?_)
  refine T.seq fun K1 hK1 => ?_
  refine T.region (l := [0]) rfl ?_
  refine RN.qq rfl rfl rfl rfl (PRun.q (p_assign rfl (by conv => lhs; whnf))) ?_
  refine RN.nil ?_
  refine hK1 _ _ ?_
  refine T.seq fun K2 hK2 => ?_
  refine T.region (l := [0, 1, 2, 3, 4, 5, 6]) rfl ?_
  refine RN.qq rfl rfl rfl rfl (PRun.q (p_move rfl (by conv => lhs; whnf))) ?_
  refine RN.qq rfl rfl rfl rfl (PRun.q (p_eql rfl rfl rfl)) ?_
  refine RN.qq rfl rfl rfl rfl (PRun.q (p_move rfl (by conv => lhs; whnf))) ?_
  first | refine RN.split_dec 5 rfl (fun h5 => ?_) (fun h5 => ?_) | refine RN.split 5 rfl (fun h5 => ?_) (fun h5 => ?_)
  ·
    refine RN.O rfl rfl rfl rfl ?_
    refine RN.O rfl rfl rfl rfl ?_
    refine RN.qq rfl rfl rfl rfl (PRun.q (p_pick_t rfl rfl (by conv => lhs; whnf))) ?_
    refine RN.qq rfl rfl rfl rfl (PRun.q (p_assign rfl (by conv => lhs; whnf))) ?_
    refine RN.nil ?_
    refine hK2 _ _ ?_
    refine T.ret ?_
    refine bodyQ_ret [] (RetRun.tmp RetRun.nil) ⟨congrArg Value.bool (decide_eq_true (.inl (by omega))).symm, rfl⟩ (Ent.refl _)
  ·
    refine RN.qq rfl rfl rfl rfl (PRun.q (p_move rfl (by conv => lhs; whnf))) ?_
    refine RN.qq rfl rfl rfl rfl (PRun.q (p_eql rfl rfl rfl)) ?_
    refine RN.qq rfl rfl rfl rfl (PRun.q (p_pick_f rfl rfl (by conv => lhs; whnf))) ?_
    refine RN.qq rfl rfl rfl rfl (PRun.q (p_assign rfl (by conv => lhs; whnf))) ?_
    refine RN.nil ?_
    refine hK2 _ _ ?_
    refine T.ret ?_
    refine bodyQ_ret [] (RetRun.tmp RetRun.nil) ⟨congrArg Value.bool (decide_eq_decide.2 ⟨fun g => .inr (by omega), fun g => by omega⟩), rfl⟩ (Ent.refl _)

theorem Word_spec (l : List UInt8) (hl : l.length ≤ 9223372036854775807) : Ctr Tryd.prog 5 [strV l] [] (fun w Ps => ∃ a b, w = .tuple #[strV a, strV b] ∧ WordQ l a b ∧ Ps = []) := by
  refine Ctr.of_body Tryd.func5 rfl (by kernel_rfl) Tryd.ntmps5 rfl rfl (fun Fr => ?_)
  refine T.seq fun K1 hK1 => ?_
  refine T.region (l := [0, 1]) rfl ?_
  refine RN.qq rfl rfl rfl rfl (PRun.q (p_assign rfl (by conv => lhs; whnf))) ?_
  refine RN.qq rfl rfl rfl rfl (PRun.q (p_assign rfl (by conv => lhs; whnf))) ?_
  refine RN.nil ?_
  refine hK1 _ _ ?_
  refine T.seq fun K2 hK2 => ?_
  refine T.region (l := [0, 1, 2]) rfl ?_
  refine RN.qq rfl rfl rfl rfl (PRun.q (p_move rfl (by conv => lhs; whnf))) ?_
  refine RN.qq rfl rfl rfl rfl (PRun.q (p_len_s rfl Tryd.underlying9 rfl)) ?_
  refine RN.qq rfl rfl rfl rfl (PRun.q (p_assign rfl (by conv => lhs; whnf))) ?_
  refine RN.nil ?_
  refine hK2 _ _ ?_
  refine T.cut (G := Nat) (fun f => First (fun c => ¬ blankL c) l f) (fun f => [(0, strV l), (4, intV f)]) (fun f => [Fr]) ?_ ?_
  ·
    refine T.seq fun K4 hK4 => ?_
    refine T.region (l := [0, 1]) rfl ?_
    refine RN.qq rfl rfl rfl rfl (PRun.q (p_move rfl (by conv => lhs; whnf))) ?_
    refine RN.E rfl rfl rfl rfl (e_range rfl Tryd.underlying9 rfl) ?_
    rintro _ _ ⟨b13, rfl, rfl⟩
    refine RN.nil ?_
    refine hK4 _ _ ?_
    refine T.block ?_
    refine T.loop (G := Nat) (fun p => p ≤ l.length ∧ Clear (fun c => ¬ blankL c) l p) (fun p => [(0, strV l), (4, intV l.length), (13, ptr b13 0)]) (fun p => [iter b13 l p, Fr]) (fun p => l.length - p) 0 ⟨Nat.zero_le _, clear_zero⟩ (LiveIs.cons rfl (LiveIs.cons rfl (LiveIs.cons rfl LiveIs.nil))) (Ent.refl _) ?_
    rintro p e5 ⟨hp, hc⟩
    refine T.seq fun K6 hK6 => ?_
    refine T.region (l := [0, 1]) rfl ?_
    by_cases hlt : p < l.length
    ·
      refine RN.E rfl rfl rfl rfl (e_next_go rfl rfl (i := 0) rfl hlt) ?_
      rintro _ _ ⟨rfl, rfl⟩
      refine RN.qq rfl rfl rfl rfl (PRun.q (p_extract rfl rfl rfl)) ?_
      refine RN.nil ?_
      refine hK6 _ _ ?_
      refine T.seq fun K7 hK7 => ?_
      refine T.cond_t rfl ?_
      refine T.skip ?_
      refine hK7 _ _ ?_
      refine T.block ?_
      refine T.seq fun K8 hK8 => ?_
      refine T.region (l := [0, 1, 2, 3]) rfl ?_
      refine RN.qq rfl rfl rfl rfl (PRun.q (p_extract rfl rfl rfl)) ?_
      refine RN.qq rfl rfl rfl rfl (PRun.q (p_extract rfl rfl rfl)) ?_
      refine RN.qq rfl rfl rfl rfl (PRun.q (p_assign rfl (by conv => lhs; whnf))) ?_
      refine RN.qq rfl rfl rfl rfl (PRun.q (p_assign rfl (by conv => lhs; whnf))) ?_
      refine RN.nil ?_
      refine hK8 _ _ ?_
      refine T.seq fun K9 hK9 => ?_
      refine T.region (l := [0, 1, 2]) rfl ?_
      refine RN.qq rfl rfl rfl rfl (PRun.q (p_move rfl (by conv => lhs; whnf))) ?_
      refine RN.C [] rfl rfl rfl rfl (c_call rfl rfl) (Blank_spec (dec l p).1) rfl ?_
      rintro _ _ ⟨rfl, rfl⟩
      refine RN.qq rfl rfl rfl rfl (PRun.q (by first | exact (p_not_dec rfl rfl) | exact (p_not rfl rfl))) ?_
      refine RN.nil ?_
      refine hK9 _ _ ?_
      first | refine T.cond_dec rfl (fun h20 => ?_) (fun h20 => ?_) | refine T.cond rfl (fun h20 => ?_) (fun h20 => ?_)
      ·
        refine T.seq fun K10 hK10 => ?_
        refine T.region (l := [0, 1]) rfl ?_
        refine RN.qq rfl rfl rfl rfl (PRun.q (p_move rfl (by conv => lhs; whnf))) ?_
        refine RN.qq rfl rfl rfl rfl (PRun.q (p_assign rfl (by conv => lhs; whnf))) ?_
        refine RN.nil ?_
        refine hK10 _ _ ?_
        refine T.exit ?_
        refine Post.block_miss rfl ?_
        refine Post.seq_x ?_
        refine Post.block_hit ?_
        refine ⟨p, (first_here hc hlt (not_blank hlt h20)), (LiveIs.cons rfl (LiveIs.cons rfl LiveIs.nil)), (Ent.pull_drop (is := [1]) rfl)⟩
      ·
        refine T.skip ?_
        refine ⟨p + (dec l p).2, ⟨(dec_step hlt).2, clear_blank hc hlt (blank_of hlt (Classical.not_not.1 h20))⟩, (by have := dec_step hlt; show _ - (p + _) < _ - p; omega), (LiveIs.cons rfl (LiveIs.cons rfl (LiveIs.cons rfl LiveIs.nil))), Ent.refl _⟩
    ·
      refine RN.E rfl rfl rfl rfl (e_next_end rfl rfl (i := 0) rfl (by omega)) ?_
      rintro _ _ ⟨rfl, rfl⟩
      refine RN.qq rfl rfl rfl rfl (PRun.q (p_extract rfl rfl rfl)) ?_
      refine RN.nil ?_
      refine hK6 _ _ ?_
      refine T.seq fun K11 hK11 => ?_
      refine T.cond_f rfl ?_
      refine T.exit ?_
      refine Post.seq_x ?_
      refine Post.seq_x ?_
      refine Post.block_hit ?_
      refine ⟨l.length, (first_end (by rwa [show p = l.length from by omega] at hc)), (LiveIs.cons rfl (LiveIs.cons rfl LiveIs.nil)), (Ent.pull_drop (is := [1]) rfl)⟩
  ·
    rintro f e3 hf
    have hfl := hf.le
    refine T.seq fun K12 hK12 => ?_
    refine T.region (l := [0, 1, 2]) rfl ?_
    refine RN.qq rfl rfl rfl rfl (PRun.q (p_move rfl (by conv => lhs; whnf))) ?_
    refine RN.qq rfl rfl rfl rfl (PRun.q (p_len_s rfl Tryd.underlying9 rfl)) ?_
    refine RN.qq rfl rfl rfl rfl (PRun.q (p_assign rfl (by conv => lhs; whnf))) ?_
    refine RN.nil ?_
    refine hK12 _ _ ?_
    refine T.cut (G := Nat) (fun t => First stopL (l.drop f) t) (fun t => [(0, strV l), (4, intV f), (7, intV (f + t))]) (fun t => [Fr]) ?_ ?_
    ·
      refine T.seq fun K14 hK14 => ?_
      refine T.region (l := [0, 1, 2, 3]) rfl ?_
      refine RN.qq rfl rfl rfl rfl (PRun.q (p_move rfl (by conv => lhs; whnf))) ?_
      refine RN.qq rfl rfl rfl rfl (PRun.q (p_move rfl (by conv => lhs; whnf))) ?_
      refine RN.qq rfl rfl rfl rfl (PRun.q (by first | exact (p_slice_s_lo rfl Tryd.underlying9 rfl rfl hfl) | exact (p_sliceN_s rfl Tryd.underlying9 rfl rfl rfl hfl) | exact (p_slice_s rfl Tryd.underlying9 rfl rfl rfl hfl))) ?_
      refine RN.E rfl rfl rfl rfl (e_range rfl Tryd.underlying9 rfl) ?_
      rintro _ _ ⟨b27, rfl, rfl⟩
      refine RN.nil ?_
      refine hK14 _ _ ?_
      refine T.block ?_
      refine T.loop (G := Nat) (fun p => p ≤ (l.drop f).length ∧ Clear stopL (l.drop f) p) (fun p => [(0, strV l), (4, intV f), (7, intV l.length), (27, ptr b27 0)]) (fun p => [iter b27 (l.drop f) p, Fr]) (fun p => (l.drop f).length - p) 0 ⟨Nat.zero_le _, clear_zero⟩ (LiveIs.cons rfl (LiveIs.cons rfl (LiveIs.cons rfl (LiveIs.cons rfl LiveIs.nil)))) (Ent.refl _) ?_
      rintro p e15 ⟨hp, hc⟩
      refine T.seq fun K16 hK16 => ?_
      refine T.region (l := [0, 1]) rfl ?_
      by_cases hlt : p < (l.drop f).length
      ·
        refine RN.E rfl rfl rfl rfl (e_next_go rfl rfl (i := 0) rfl hlt) ?_
        rintro _ _ ⟨rfl, rfl⟩
        refine RN.qq rfl rfl rfl rfl (PRun.q (p_extract rfl rfl rfl)) ?_
        refine RN.nil ?_
        refine hK16 _ _ ?_
        refine T.seq fun K17 hK17 => ?_
        refine T.cond_t rfl ?_
        refine T.skip ?_
        refine hK17 _ _ ?_
        refine T.block ?_
        refine T.seq fun K18 hK18 => ?_
        refine T.region (l := [0, 1, 2, 3]) rfl ?_
        refine RN.qq rfl rfl rfl rfl (PRun.q (p_extract rfl rfl rfl)) ?_
        refine RN.qq rfl rfl rfl rfl (PRun.q (p_extract rfl rfl rfl)) ?_
        refine RN.qq rfl rfl rfl rfl (PRun.q (p_assign rfl (by conv => lhs; whnf))) ?_
        refine RN.qq rfl rfl rfl rfl (PRun.q (p_assign rfl (by conv => lhs; whnf))) ?_
        refine RN.nil ?_
        refine hK18 _ _ ?_
        refine T.seq fun K19 hK19 => ?_
        refine T.region (l := [0, 1, 2, 3, 4, 5]) rfl ?_
        refine RN.qq rfl rfl rfl rfl (PRun.q (p_move rfl (by conv => lhs; whnf))) ?_
        refine RN.C [] rfl rfl rfl rfl (c_call rfl rfl) (Blank_spec (dec (l.drop f) p).1) rfl ?_
        rintro _ _ ⟨rfl, rfl⟩
        refine RN.qq rfl rfl rfl rfl (PRun.q (p_move rfl (by conv => lhs; whnf))) ?_
        first | refine RN.split_dec 34 rfl (fun h34 => ?_) (fun h34 => ?_) | refine RN.split 34 rfl (fun h34 => ?_) (fun h34 => ?_)
        ·
          refine RN.O rfl rfl rfl rfl ?_
          refine RN.O rfl rfl rfl rfl ?_
          refine RN.qq rfl rfl rfl rfl (PRun.q (p_pick_t rfl rfl (by conv => lhs; whnf))) ?_
          refine RN.nil ?_
          refine hK19 _ _ ?_
          refine T.cond_t rfl ?_
          refine T.seq fun K20 hK20 => ?_
          refine T.region (l := [0, 1, 2, 3]) rfl ?_
          refine RN.qq rfl rfl rfl rfl (PRun.q (p_move rfl (by conv => lhs; whnf))) ?_
          refine RN.qq rfl rfl rfl rfl (PRun.q (p_move rfl (by conv => lhs; whnf))) ?_
          refine RN.qq rfl rfl rfl rfl (PRun.q (by first | exact (p_addN rfl rfl rfl (by rw [List.length_drop] at hp; omega)) | exact (p_add rfl rfl rfl (by rw [List.length_drop] at hp; omega)))) ?_
          refine RN.qq rfl rfl rfl rfl (PRun.q (p_assign rfl (by conv => lhs; whnf))) ?_
          refine RN.nil ?_
          refine hK20 _ _ ?_
          refine T.exit ?_
          refine Post.block_miss rfl ?_
          refine Post.seq_x ?_
          refine Post.block_hit ?_
          refine ⟨p, (first_here hc hlt (stop_blank hlt h34)), (LiveIs.cons rfl (LiveIs.cons rfl (LiveIs.cons rfl LiveIs.nil))), (Ent.pull_drop (is := [1]) rfl)⟩
        ·
          refine RN.qq rfl rfl rfl rfl (PRun.q (p_move rfl (by conv => lhs; whnf))) ?_
          refine RN.qq rfl rfl rfl rfl (PRun.q (p_eql rfl rfl rfl)) ?_
          refine RN.qq rfl rfl rfl rfl (PRun.q (p_pick_f rfl rfl (by conv => lhs; whnf))) ?_
          refine RN.nil ?_
          refine hK19 _ _ ?_
          first | refine T.cond_dec rfl (fun h37 => ?_) (fun h37 => ?_) | refine T.cond rfl (fun h37 => ?_) (fun h37 => ?_)
          ·
            refine T.seq fun K21 hK21 => ?_
            refine T.region (l := [0, 1, 2, 3]) rfl ?_
            refine RN.qq rfl rfl rfl rfl (PRun.q (p_move rfl (by conv => lhs; whnf))) ?_
            refine RN.qq rfl rfl rfl rfl (PRun.q (p_move rfl (by conv => lhs; whnf))) ?_
            refine RN.qq rfl rfl rfl rfl (PRun.q (by first | exact (p_addN rfl rfl rfl (by rw [List.length_drop] at hp; omega)) | exact (p_add rfl rfl rfl (by rw [List.length_drop] at hp; omega)))) ?_
            refine RN.qq rfl rfl rfl rfl (PRun.q (p_assign rfl (by conv => lhs; whnf))) ?_
            refine RN.nil ?_
            refine hK21 _ _ ?_
            refine T.exit ?_
            refine Post.block_miss rfl ?_
            refine Post.seq_x ?_
            refine Post.block_hit ?_
            refine ⟨p, (first_here hc hlt (stop_nl hlt (by omega))), (LiveIs.cons rfl (LiveIs.cons rfl (LiveIs.cons rfl LiveIs.nil))), (Ent.pull_drop (is := [1]) rfl)⟩
          ·
            refine T.skip ?_
            refine ⟨p + (dec (l.drop f) p).2, ⟨(dec_step hlt).2, clear_dec hc hlt stop_small (not_stop hlt h34 (by omega))⟩, (by have := dec_step hlt; show _ - (p + _) < _ - p; omega), (LiveIs.cons rfl (LiveIs.cons rfl (LiveIs.cons rfl (LiveIs.cons rfl LiveIs.nil)))), Ent.refl _⟩
      ·
        refine RN.E rfl rfl rfl rfl (e_next_end rfl rfl (i := 0) rfl (by omega)) ?_
        rintro _ _ ⟨rfl, rfl⟩
        refine RN.qq rfl rfl rfl rfl (PRun.q (p_extract rfl rfl rfl)) ?_
        refine RN.nil ?_
        refine hK16 _ _ ?_
        refine T.seq fun K22 hK22 => ?_
        refine T.cond_f rfl ?_
        refine T.exit ?_
        refine Post.seq_x ?_
        refine Post.seq_x ?_
        refine Post.block_hit ?_
        refine ⟨(l.drop f).length, (first_end (by rwa [show p = (l.drop f).length from by omega] at hc)), (LiveIs.cons rfl (LiveIs.cons rfl (LiveIs.cons (congrArg intV (by rw [List.length_drop]; omega)) LiveIs.nil))), (Ent.pull_drop (is := [1]) rfl)⟩
    ·
      rintro t e13 ht
      have htl := ht.le
      rw [List.length_drop] at htl
      refine T.seq fun K23 hK23 => ?_
      refine T.regionD (z := 9) (Bs := _) (l := [(0, .pure), (1, .pure), (2, .pure), (3, .pure), (4, .pure), (5, .pure), (6, .pure), (7, .pure), (8, .pure)]) mixed (by kernel_rfl) (Ent.refl _) ?_
      refine RD.pp rfl rfl rfl rfl (p_move rfl (by conv => lhs; whnf)) ?_
      refine RD.pp rfl rfl rfl rfl (p_move rfl (by conv => lhs; whnf)) ?_
      refine RD.pp rfl rfl rfl rfl (p_move rfl (by conv => lhs; whnf)) ?_
      refine RD.pp rfl rfl rfl rfl (by first | exact (p_sliceN_s rfl Tryd.underlying9 rfl rfl rfl (by omega)) | exact (p_slice_s rfl Tryd.underlying9 rfl rfl rfl (by omega))) ?_
      refine RD.pp rfl rfl rfl rfl (p_move rfl (by conv => lhs; whnf)) ?_
      refine RD.pp rfl rfl rfl rfl (p_move rfl (by conv => lhs; whnf)) ?_
      refine RD.pp rfl rfl rfl rfl (by first | exact (p_slice_s_lo rfl Tryd.underlying9 rfl rfl (by omega)) | exact (p_sliceN_s rfl Tryd.underlying9 rfl rfl rfl (by omega)) | exact (p_slice_s rfl Tryd.underlying9 rfl rfl rfl (by omega))) ?_
      refine RD.pp rfl rfl rfl rfl (p_assign rfl (by conv => lhs; whnf)) ?_
      refine RD.pp rfl rfl rfl rfl (p_assign rfl (by conv => lhs; whnf)) ?_
      refine RD.nil ?_
      refine hK23 _ _ ?_
      refine T.ret ?_
      refine bodyQ_ret [] (RetRun.tmp (RetRun.tmp RetRun.nil)) ⟨_, _, rfl, ⟨f, t, hf, ht, by rw [List.drop_take, Nat.add_sub_cancel_left], rfl⟩, rfl⟩ (Ent.refl _)

theorem RWord_spec (l : List UInt8) (hl : l.length ≤ 9223372036854775807) : Ctr Tryd.prog 6 [strV l] [] (fun w Ps => ∃ a b, w = .tuple #[strV a, strV b] ∧ WordQ l a b ∧ Ps = []) := by
  refine Ctr.of_body Tryd.func6 rfl (by kernel_rfl) Tryd.ntmps6 rfl rfl (fun Fr => ?_)
  refine T.seq fun K1 hK1 => ?_
  refine T.region (l := [0, 1]) rfl ?_
  refine RN.qq rfl rfl rfl rfl (PRun.q (p_assign rfl (by conv => lhs; whnf))) ?_
  refine RN.qq rfl rfl rfl rfl (PRun.q (p_assign rfl (by conv => lhs; whnf))) ?_
  refine RN.nil ?_
  refine hK1 _ _ ?_
  refine T.seq fun K2 hK2 => ?_
  refine T.region (l := [0]) rfl ?_
  refine RN.qq rfl rfl rfl rfl (PRun.q (p_assign rfl (by conv => lhs; whnf))) ?_
  refine RN.nil ?_
  refine hK2 _ _ ?_
  refine T.cut (G := Nat) (fun f => First (fun c => ¬ blankL c) l f) (fun f => [(0, strV l), (4, intV f)]) (fun f => [Fr]) ?_ ?_
  ·
    refine T.block ?_
    refine T.loop (G := Nat) (fun p => p ≤ l.length ∧ Clear (fun c => ¬ blankL c) l p) (fun p => [(0, strV l), (4, intV p)]) (fun p => [Fr]) (fun p => l.length - p) 0 ⟨Nat.zero_le _, clear_zero⟩ (LiveIs.cons rfl (LiveIs.cons rfl LiveIs.nil)) (Ent.refl _) ?_
    rintro p e4 ⟨hp, hc⟩
    refine T.seq fun K5 hK5 => ?_
    refine T.seq fun K6 hK6 => ?_
    refine T.region (l := [0, 1, 2, 3, 4, 5, 6, 7, 8, 9]) rfl ?_
    refine RN.qq rfl rfl rfl rfl (PRun.q (p_move rfl (by conv => lhs; whnf))) ?_
    refine RN.qq rfl rfl rfl rfl (PRun.q (p_move rfl (by conv => lhs; whnf))) ?_
    refine RN.qq rfl rfl rfl rfl (PRun.q (p_len_s rfl Tryd.underlying9 rfl)) ?_
    refine RN.qq rfl rfl rfl rfl (PRun.q (p_lss rfl rfl rfl)) ?_
    refine RN.qq rfl rfl rfl rfl (PRun.q (p_move rfl (by conv => lhs; whnf))) ?_
    first | refine RN.split_dec 10 rfl (fun h10 => ?_) (fun h10 => ?_) | refine RN.split 10 rfl (fun h10 => ?_) (fun h10 => ?_)
    ·
      have hlt : p < l.length := by omega
      refine RN.qq rfl rfl rfl rfl (PRun.q (p_move rfl (by conv => lhs; whnf))) ?_
      refine RN.qq rfl rfl rfl rfl (PRun.q (p_move rfl (by conv => lhs; whnf))) ?_
      refine RN.qq rfl rfl rfl rfl (PRun.q (by first | exact (p_indexN_s rfl Tryd.underlying9 rfl rfl (List.getElem?_eq_getElem hlt)) | exact (p_index_s rfl Tryd.underlying9 rfl rfl (List.getElem?_eq_getElem hlt)))) ?_
      refine RN.C [] rfl rfl rfl rfl (c_call rfl rfl) (RBlank_spec l[p].toNat) rfl ?_
      rintro _ _ ⟨rfl, rfl⟩
      refine RN.qq rfl rfl rfl rfl (PRun.q (p_pick_t rfl rfl (by conv => lhs; whnf))) ?_
      refine RN.nil ?_
      refine hK6 _ _ ?_
      first | refine T.cond_dec rfl (fun h15 => ?_) (fun h15 => ?_) | refine T.cond rfl (fun h15 => ?_) (fun h15 => ?_)
      ·
        refine T.skip ?_
        refine hK5 _ _ ?_
        refine T.block ?_
        refine T.region (l := [0, 1, 2]) rfl ?_
        refine RN.qq rfl rfl rfl rfl (PRun.q (p_move rfl (by conv => lhs; whnf))) ?_
        refine RN.qq rfl rfl rfl rfl (PRun.q (by first | exact (p_addN (b := 1) rfl rfl rfl (by omega)) | exact (p_add rfl rfl rfl (by omega)))) ?_
        refine RN.qq rfl rfl rfl rfl (PRun.q (p_assign rfl (by conv => lhs; whnf))) ?_
        refine RN.nil ?_
        refine ⟨p + 1, ⟨hlt, clear_one hc hlt (not_not_intro h15)⟩, (by show _ - (p + 1) < _ - p; omega), (LiveIs.cons rfl (LiveIs.cons rfl LiveIs.nil)), Ent.refl _⟩
      ·
        refine T.exit ?_
        refine Post.seq_x ?_
        refine Post.seq_x ?_
        refine Post.block_hit ?_
        refine ⟨p, (first_here hc hlt h15), (LiveIs.cons rfl (LiveIs.cons rfl LiveIs.nil)), Ent.refl _⟩
    ·
      refine RN.O rfl rfl rfl rfl ?_
      refine RN.O rfl rfl rfl rfl ?_
      refine RN.O rfl rfl rfl rfl ?_
      refine RN.O rfl rfl rfl rfl ?_
      refine RN.qq rfl rfl rfl rfl (PRun.q (p_pick_f rfl rfl (by conv => lhs; whnf))) ?_
      refine RN.nil ?_
      refine hK6 _ _ ?_
      refine T.cond_f rfl ?_
      refine T.exit ?_
      refine Post.seq_x ?_
      refine Post.seq_x ?_
      refine Post.block_hit ?_
      refine ⟨p, (by rw [show p = l.length from by omega] at hc ⊢; exact first_end hc), (LiveIs.cons rfl (LiveIs.cons rfl LiveIs.nil)), Ent.refl _⟩
  ·
    rintro f e3 hf
    have hfl := hf.le
    refine T.seq fun K7 hK7 => ?_
    refine T.region (l := [0, 1]) rfl ?_
    refine RN.qq rfl rfl rfl rfl (PRun.q (p_move rfl (by conv => lhs; whnf))) ?_
    refine RN.qq rfl rfl rfl rfl (PRun.q (p_assign rfl (by conv => lhs; whnf))) ?_
    refine RN.nil ?_
    refine hK7 _ _ ?_
    refine T.cut (G := Nat) (fun t => First stopL (l.drop f) t) (fun t => [(0, strV l), (4, intV f), (5, intV (f + t))]) (fun t => [Fr]) ?_ ?_
    ·
      refine T.block ?_
      refine T.loop (G := Nat) (fun p => f + p ≤ l.length ∧ Clear stopL (l.drop f) p) (fun p => [(0, strV l), (4, intV f), (5, intV (f + p))]) (fun p => [Fr]) (fun p => l.length - (f + p)) 0 ⟨hf.le, clear_zero⟩ (LiveIs.cons rfl (LiveIs.cons rfl (LiveIs.cons rfl LiveIs.nil))) (Ent.refl _) ?_
      rintro p e9 ⟨hp, hc⟩
      refine T.seq fun K10 hK10 => ?_
      refine T.seq fun K11 hK11 => ?_
      refine T.region (l := [0, 1, 2, 3, 4, 5, 6, 7, 8, 9, 10, 11, 12, 13, 14, 15, 16]) rfl ?_
      refine RN.qq rfl rfl rfl rfl (PRun.q (p_move rfl (by conv => lhs; whnf))) ?_
      refine RN.qq rfl rfl rfl rfl (PRun.q (p_move rfl (by conv => lhs; whnf))) ?_
      refine RN.qq rfl rfl rfl rfl (PRun.q (p_len_s rfl Tryd.underlying9 rfl)) ?_
      refine RN.qq rfl rfl rfl rfl (PRun.q (p_lss rfl rfl rfl)) ?_
      refine RN.qq rfl rfl rfl rfl (PRun.q (p_move rfl (by conv => lhs; whnf))) ?_
      first | refine RN.split_dec 23 rfl (fun h23 => ?_) (fun h23 => ?_) | refine RN.split 23 rfl (fun h23 => ?_) (fun h23 => ?_)
      ·
        have hlt : f + p < l.length := by omega
        have hld : p < (l.drop f).length := by rw [List.length_drop]; omega
        refine RN.qq rfl rfl rfl rfl (PRun.q (p_move rfl (by conv => lhs; whnf))) ?_
        refine RN.qq rfl rfl rfl rfl (PRun.q (p_move rfl (by conv => lhs; whnf))) ?_
        refine RN.qq rfl rfl rfl rfl (PRun.q (by first | exact (p_indexN_s rfl Tryd.underlying9 rfl rfl (List.getElem?_eq_getElem hlt)) | exact (p_index_s rfl Tryd.underlying9 rfl rfl (List.getElem?_eq_getElem hlt)))) ?_
        refine RN.C [] rfl rfl rfl rfl (c_call rfl rfl) (RBlank_spec l[f + p].toNat) rfl ?_
        rintro _ _ ⟨rfl, rfl⟩
        refine RN.qq rfl rfl rfl rfl (PRun.q (by first | exact (p_not_dec rfl rfl) | exact (p_not rfl rfl))) ?_
        refine RN.qq rfl rfl rfl rfl (PRun.q (p_pick_t rfl rfl (by conv => lhs; whnf))) ?_
        refine RN.qq rfl rfl rfl rfl (PRun.q (p_move rfl (by conv => lhs; whnf))) ?_
        first | refine RN.split_dec 30 rfl (fun h30 => ?_) (fun h30 => ?_) | refine RN.split 30 rfl (fun h30 => ?_) (fun h30 => ?_)
        ·
          refine RN.qq rfl rfl rfl rfl (PRun.q (p_move rfl (by conv => lhs; whnf))) ?_
          refine RN.qq rfl rfl rfl rfl (PRun.q (p_move rfl (by conv => lhs; whnf))) ?_
          refine RN.qq rfl rfl rfl rfl (PRun.q (by first | exact (p_indexN_s rfl Tryd.underlying9 rfl rfl (List.getElem?_eq_getElem hlt)) | exact (p_index_s rfl Tryd.underlying9 rfl rfl (List.getElem?_eq_getElem hlt)))) ?_
          refine RN.qq rfl rfl rfl rfl (PRun.q (p_neq rfl rfl rfl)) ?_
          refine RN.qq rfl rfl rfl rfl (PRun.q (p_pick_t rfl rfl (by conv => lhs; whnf))) ?_
          refine RN.nil ?_
          refine hK11 _ _ ?_
          first | refine T.cond_dec rfl (fun h35 => ?_) (fun h35 => ?_) | refine T.cond rfl (fun h35 => ?_) (fun h35 => ?_)
          ·
            refine T.skip ?_
            refine hK10 _ _ ?_
            refine T.block ?_
            refine T.region (l := [0, 1, 2]) rfl ?_
            refine RN.qq rfl rfl rfl rfl (PRun.q (p_move rfl (by conv => lhs; whnf))) ?_
            refine RN.qq rfl rfl rfl rfl (PRun.q (by first | exact (p_addN (b := 1) rfl rfl rfl (by omega)) | exact (p_add rfl rfl rfl (by omega)))) ?_
            refine RN.qq rfl rfl rfl rfl (PRun.q (p_assign rfl (by conv => lhs; whnf))) ?_
            refine RN.nil ?_
            refine ⟨p + 1, ⟨hlt, clear_one hc hld (by rw [List.getElem_drop]; unfold stopL; omega)⟩, (by show _ - (f + (p + 1)) < _ - (f + p); omega), (LiveIs.cons rfl (LiveIs.cons rfl (LiveIs.cons rfl LiveIs.nil))), Ent.refl _⟩
          ·
            refine T.exit ?_
            refine Post.seq_x ?_
            refine Post.seq_x ?_
            refine Post.block_hit ?_
            refine ⟨p, (first_here hc hld (by rw [List.getElem_drop]; unfold stopL; omega)), (LiveIs.cons rfl (LiveIs.cons rfl (LiveIs.cons rfl LiveIs.nil))), Ent.refl _⟩
        ·
          refine RN.O rfl rfl rfl rfl ?_
          refine RN.O rfl rfl rfl rfl ?_
          refine RN.O rfl rfl rfl rfl ?_
          refine RN.O rfl rfl rfl rfl ?_
          refine RN.qq rfl rfl rfl rfl (PRun.q (p_pick_f rfl rfl (by conv => lhs; whnf))) ?_
          refine RN.nil ?_
          refine hK11 _ _ ?_
          refine T.cond_f rfl ?_
          refine T.exit ?_
          refine Post.seq_x ?_
          refine Post.seq_x ?_
          refine Post.block_hit ?_
          refine ⟨p, (first_here hc hld (by rw [List.getElem_drop]; unfold stopL; omega)), (LiveIs.cons rfl (LiveIs.cons rfl (LiveIs.cons rfl LiveIs.nil))), Ent.refl _⟩
      ·
        refine RN.O rfl rfl rfl rfl ?_
        refine RN.O rfl rfl rfl rfl ?_
        refine RN.O rfl rfl rfl rfl ?_
        refine RN.O rfl rfl rfl rfl ?_
        refine RN.O rfl rfl rfl rfl ?_
        refine RN.qq rfl rfl rfl rfl (PRun.q (p_pick_f rfl rfl (by conv => lhs; whnf))) ?_
        refine RN.qq rfl rfl rfl rfl (PRun.q (p_move rfl (by conv => lhs; whnf))) ?_
        refine RN.O rfl rfl rfl rfl ?_
        refine RN.O rfl rfl rfl rfl ?_
        refine RN.O rfl rfl rfl rfl ?_
        refine RN.O rfl rfl rfl rfl ?_
        refine RN.qq rfl rfl rfl rfl (PRun.q (p_pick_f rfl rfl (by conv => lhs; whnf))) ?_
        refine RN.nil ?_
        refine hK11 _ _ ?_
        refine T.cond_f rfl ?_
        refine T.exit ?_
        refine Post.seq_x ?_
        refine Post.seq_x ?_
        refine Post.block_hit ?_
        refine ⟨p, (by rw [show p = (l.drop f).length from by rw [List.length_drop]; omega] at hc ⊢; exact first_end hc), (LiveIs.cons rfl (LiveIs.cons rfl (LiveIs.cons rfl LiveIs.nil))), Ent.refl _⟩
    ·
      rintro t e8 ht
      have htl := ht.le
      rw [List.length_drop] at htl
      refine T.seq fun K12 hK12 => ?_
      refine T.regionD (z := 9) (Bs := _) (l := [(0, .pure), (1, .pure), (2, .pure), (3, .pure), (4, .pure), (5, .pure), (6, .pure), (7, .pure), (8, .pure)]) mixed (by kernel_rfl) (Ent.refl _) ?_
      refine RD.pp rfl rfl rfl rfl (p_move rfl (by conv => lhs; whnf)) ?_
      refine RD.pp rfl rfl rfl rfl (p_move rfl (by conv => lhs; whnf)) ?_
      refine RD.pp rfl rfl rfl rfl (p_move rfl (by conv => lhs; whnf)) ?_
      refine RD.pp rfl rfl rfl rfl (by first | exact (p_sliceN_s rfl Tryd.underlying9 rfl rfl rfl (by omega)) | exact (p_slice_s rfl Tryd.underlying9 rfl rfl rfl (by omega))) ?_
      refine RD.pp rfl rfl rfl rfl (p_move rfl (by conv => lhs; whnf)) ?_
      refine RD.pp rfl rfl rfl rfl (p_move rfl (by conv => lhs; whnf)) ?_
      refine RD.pp rfl rfl rfl rfl (by first | exact (p_slice_s_lo rfl Tryd.underlying9 rfl rfl (by omega)) | exact (p_sliceN_s rfl Tryd.underlying9 rfl rfl rfl (by omega)) | exact (p_slice_s rfl Tryd.underlying9 rfl rfl rfl (by omega))) ?_
      refine RD.pp rfl rfl rfl rfl (p_assign rfl (by conv => lhs; whnf)) ?_
      refine RD.pp rfl rfl rfl rfl (p_assign rfl (by conv => lhs; whnf)) ?_
      refine RD.nil ?_
      refine hK12 _ _ ?_
      refine T.ret ?_
      refine bodyQ_ret [] (RetRun.tmp (RetRun.tmp RetRun.nil)) ⟨_, _, rfl, ⟨f, t, hf, ht, by rw [List.drop_take, Nat.add_sub_cancel_left], rfl⟩, rfl⟩ (Ent.refl _)

end Go.Proofs.YtokbjejbgbdkoaaDoor
