/-
 The reference of told texts: walked.
-/
import Derived.Test.YtokbjejbgbdkoaaDoorGYdQ2
import Derived.Test.YtokbjejbgbdkoaaDoorGSl20
import Derived.Test.YtokbjejbgbdkoaaDoorGModelC
set_option linter.unusedVariables false
set_option linter.unusedSimpArgs false
namespace Go.Proofs.YtokbjejbgbdkoaaDoor
open Go Go.Sl Go.Proofs
set_option maxRecDepth 20000
open Go.Mo Go.Proofs Go.Shelf Go.RowKit
end Go.Proofs.YtokbjejbgbdkoaaDoor
namespace Go.Proofs.YtokbjejbgbdkoaaDoor
open Go Go.Sl Go.Proofs
set_option maxRecDepth 20000
open Go.Mo Go.Proofs Go.Shelf Go.RowKit
end Go.Proofs.YtokbjejbgbdkoaaDoor
namespace Go.Proofs.YtokbjejbgbdkoaaDoor
open Go Go.Sl Go.Proofs
set_option maxRecDepth 20000
open Go.Mo Go.Proofs Go.Shelf Go.RowKit
theorem blank_of {l : List UInt8} {i : Nat} (hi : i < l.length) (h : (dec l i).1 = 32 ∨ (dec l i).1 = 9) : blankL l[i] := h.elim (fun g => .inl ((dec_is hi (by omega)).1 g)) fun g => .inr ((dec_is hi (by omega)).1 g)
theorem not_blank {l : List UInt8} {i : Nat} (hi : i < l.length) (h : ¬ ((dec l i).1 = 32 ∨ (dec l i).1 = 9)) : ¬ blankL l[i] := fun g => h (g.elim (fun g => .inl ((dec_is hi (by omega)).2 g)) fun g => .inr ((dec_is hi (by omega)).2 g))
theorem not_stop {l : List UInt8} {i : Nat} (hi : i < l.length) (h : ¬ ((dec l i).1 = 32 ∨ (dec l i).1 = 9)) (h2 : ¬ (dec l i).1 = 10) : ¬ stopL l[i] := fun g => g.elim (not_blank hi h) fun g => h2 ((dec_is hi (by omega)).2 g)
theorem stop_blank {l : List UInt8} {i : Nat} (hi : i < l.length) (h : (dec l i).1 = 32 ∨ (dec l i).1 = 9) : stopL l[i] := .inl (blank_of hi h)
theorem stop_nl {l : List UInt8} {i : Nat} (hi : i < l.length) (h : (dec l i).1 = 10) : stopL l[i] := .inr ((dec_is hi (by omega)).1 h)

theorem Blank_spec (r : Nat) : Ctr Tryd.prog 11 [.int .i32 (r : Int)] [] (fun w Ps => w = .bool (decide (r = 32 ∨ r = 9)) ∧ Ps = []) := by
 refine Ctr.of_body Tryd.func11 rfl (by kernel_rfl) Tryd.ntmps11 rfl rfl (fun Fr => ?_)
 refine T.seq fun K1 hK1 => ?_
 refine T.region (l := [0]) rfl ?_
 refine RN.a rfl ?_
 refine RN.nil ?_
 refine hK1 _ _ ?_
 refine T.seq fun K2 hK2 => ?_
 refine T.region (l := [0, 1, 2, 3, 4, 5, 6]) rfl ?_
 refine RN.m rfl ?_
 refine RN.p rfl (p_eql rfl rfl rfl) ?_
 refine RN.m rfl ?_
 first | refine RN.split_dec 5 rfl (fun h5 => ?_) (fun h5 => ?_) | refine RN.split 5 rfl (fun h5 => ?_) (fun h5 => ?_)
 ·
  refine RN.no0 rfl ?_
  refine RN.no0 rfl ?_
  refine RN.pt rfl ?_
  refine RN.a rfl ?_
  refine RN.nil ?_
  refine hK2 _ _ ?_
  refine T.ret ?_
  refine bodyQ_ret [] (RetRun.tmp RetRun.nil) ⟨congrArg Value.bool (decide_eq_true (.inl (by omega))).symm, rfl⟩ (Ent.refl _)
 ·
  refine RN.m rfl ?_
  refine RN.p rfl (p_eql rfl rfl rfl) ?_
  refine RN.pf rfl ?_
  refine RN.a rfl ?_
  refine RN.nil ?_
  refine hK2 _ _ ?_
  refine T.ret ?_
  refine bodyQ_ret [] (RetRun.tmp RetRun.nil) ⟨congrArg Value.bool (decide_eq_decide.2 ⟨fun g => .inr (by omega), fun g => by omega⟩), rfl⟩ (Ent.refl _)

theorem Word_spec (l : List UInt8) (hl : l.length ≤ 9223372036854775807) : Ctr Tryd.prog 5 [strV l] [] (fun w Ps => ∃ a b, w = .tuple #[strV a, strV b] ∧ WordQ l a b ∧ Ps = []) := by
 refine Ctr.of_body Tryd.func5 rfl (by kernel_rfl) Tryd.ntmps5 rfl rfl (fun Fr => ?_)
 refine T.seq fun K1 hK1 => ?_
 refine T.region (l := [0, 1]) rfl ?_
 refine RN.a rfl ?_
 refine RN.a rfl ?_
 refine RN.nil ?_
 refine hK1 _ _ ?_
 refine T.seq fun K2 hK2 => ?_
 refine T.region (l := [0, 1, 2]) rfl ?_
 refine RN.m rfl ?_
 refine RN.p rfl (p_len_s rfl Tryd.underlying9 rfl) ?_
 refine RN.a rfl ?_
 refine RN.nil ?_
 refine hK2 _ _ ?_
 refine T.cut (G := Nat) (fun f => First (fun c => ¬ blankL c) l f) (fun f => [(0, strV l), (4, intV f)]) (fun f => [Fr]) ?_ ?_
 ·
  refine T.seq fun K4 hK4 => ?_
  refine T.region (l := [0, 1]) rfl ?_
  refine RN.m rfl ?_
  refine RN.E rfl rfl rfl rfl (e_range rfl Tryd.underlying9 rfl) ?_
  rintro _ _ ⟨b13, rfl, rfl⟩
  refine RN.nil ?_
  refine hK4 _ _ ?_
  refine T.block ?_
  refine T.loop (G := Nat) (fun p => p ≤ l.length ∧ Clear (fun c => ¬ blankL c) l p) (fun p => [(0, strV l), (4, intV l.length), (13, ptr b13 0)]) (fun p => [iter b13 l p, Fr]) (fun p => l.length - p) 0 ⟨Nat.zero_le _, clear_zero⟩ (LiveIs.cons rfl (LiveIs.cons rfl (LiveIs.cons rfl LiveIs.nil))) (Ent.refl _) ?_
  rintro p e5 ⟨hp, hc⟩
  refine T.seq fun K6 hK6 => ?_
  refine T.region (l := [0, 1]) rfl ?_
  by_cases hlt : p < l.length
  ·
   refine RN.E rfl rfl rfl rfl (e_next_go rfl rfl (i := 0) rfl hlt) ?_
   rintro _ _ ⟨rfl, rfl⟩
   refine RN.p rfl (p_extract rfl rfl rfl) ?_
   refine RN.nil ?_
   refine hK6 _ _ ?_
   refine T.seq fun K7 hK7 => ?_
   refine T.cond_t rfl ?_
   refine T.skip ?_
   refine hK7 _ _ ?_
   refine T.block ?_
   refine T.seq fun K8 hK8 => ?_
   refine T.region (l := [0, 1, 2, 3]) rfl ?_
   refine RN.p rfl (p_extract rfl rfl rfl) ?_
   refine RN.p rfl (p_extract rfl rfl rfl) ?_
   refine RN.a rfl ?_
   refine RN.a rfl ?_
   refine RN.nil ?_
   refine hK8 _ _ ?_
   refine T.seq fun K9 hK9 => ?_
   refine T.region (l := [0, 1, 2]) rfl ?_
   refine RN.m rfl ?_
   refine RN.C [] rfl rfl rfl rfl (c_call rfl rfl) (Blank_spec (dec l p).1) rfl ?_
   rintro _ _ ⟨rfl, rfl⟩
   refine RN.p rfl (by first | exact (p_not_dec rfl rfl) | exact (p_not rfl rfl)) ?_
   refine RN.nil ?_
   refine hK9 _ _ ?_
   first | refine T.cond_dec rfl (fun h20 => ?_) (fun h20 => ?_) | refine T.cond rfl (fun h20 => ?_) (fun h20 => ?_)
   ·
    refine T.seq fun K10 hK10 => ?_
    refine T.region (l := [0, 1]) rfl ?_
    refine RN.m rfl ?_
    refine RN.a rfl ?_
    refine RN.nil ?_
    refine hK10 _ _ ?_
    refine T.exit ?_
    refine Post.block_miss rfl ?_
    refine Post.seq_x ?_
    refine Post.block_hit ?_
    refine ⟨p, (first_here hc hlt (not_blank hlt h20)), (LiveIs.cons rfl (LiveIs.cons rfl LiveIs.nil)), (Ent.pull_drop (is := [1]) rfl)⟩
   ·
    refine T.skip ?_
    refine ⟨p + (dec l p).2, ⟨(dec_step hlt).2, clear_blank hc hlt (blank_of hlt (Classical.not_not.1 h20))⟩, (by have := dec_step hlt; show _ - (p + _) < _ - p; omega), (LiveIs.cons rfl (LiveIs.cons rfl (LiveIs.cons rfl LiveIs.nil))), Ent.refl _⟩
  ·
   refine RN.E rfl rfl rfl rfl (e_next_end rfl rfl (i := 0) rfl (by omega)) ?_
   rintro _ _ ⟨rfl, rfl⟩
   refine RN.p rfl (p_extract rfl rfl rfl) ?_
   refine RN.nil ?_
   refine hK6 _ _ ?_
   refine T.seq fun K11 hK11 => ?_
   refine T.cond_f rfl ?_
   refine T.exit ?_
   refine Post.seq_x ?_
   refine Post.seq_x ?_
   refine Post.block_hit ?_
   refine ⟨l.length, (first_end (by rwa [show p = l.length from by omega] at hc)), (LiveIs.cons rfl (LiveIs.cons rfl LiveIs.nil)), (Ent.pull_drop (is := [1]) rfl)⟩
 ·
  rintro f e3 hf
  have hfl := hf.le
  refine T.seq fun K12 hK12 => ?_
  refine T.region (l := [0, 1, 2]) rfl ?_
  refine RN.m rfl ?_
  refine RN.p rfl (p_len_s rfl Tryd.underlying9 rfl) ?_
  refine RN.a rfl ?_
  refine RN.nil ?_
  refine hK12 _ _ ?_
  refine T.cut (G := Nat) (fun t => First stopL (l.drop f) t) (fun t => [(0, strV l), (4, intV f), (7, intV (f + t))]) (fun t => [Fr]) ?_ ?_
  ·
   refine T.seq fun K14 hK14 => ?_
   refine T.region (l := [0, 1, 2, 3]) rfl ?_
   refine RN.m rfl ?_
   refine RN.m rfl ?_
   refine RN.p rfl (by first | exact (p_slice_s_lo rfl Tryd.underlying9 rfl rfl hfl) | exact (p_sliceN_s rfl Tryd.underlying9 rfl rfl rfl hfl) | exact (p_slice_s rfl Tryd.underlying9 rfl rfl rfl hfl)) ?_
   refine RN.E rfl rfl rfl rfl (e_range rfl Tryd.underlying9 rfl) ?_
   rintro _ _ ⟨b27, rfl, rfl⟩
   refine RN.nil ?_
   refine hK14 _ _ ?_
   refine T.block ?_
   refine T.loop (G := Nat) (fun p => p ≤ (l.drop f).length ∧ Clear stopL (l.drop f) p) (fun p => [(0, strV l), (4, intV f), (7, intV l.length), (27, ptr b27 0)]) (fun p => [iter b27 (l.drop f) p, Fr]) (fun p => (l.drop f).length - p) 0 ⟨Nat.zero_le _, clear_zero⟩ (LiveIs.cons rfl (LiveIs.cons rfl (LiveIs.cons rfl (LiveIs.cons rfl LiveIs.nil)))) (Ent.refl _) ?_
   rintro p e15 ⟨hp, hc⟩
   refine T.seq fun K16 hK16 => ?_
   refine T.region (l := [0, 1]) rfl ?_
   by_cases hlt : p < (l.drop f).length
   ·
    refine RN.E rfl rfl rfl rfl (e_next_go rfl rfl (i := 0) rfl hlt) ?_
    rintro _ _ ⟨rfl, rfl⟩
    refine RN.p rfl (p_extract rfl rfl rfl) ?_
    refine RN.nil ?_
    refine hK16 _ _ ?_
    refine T.seq fun K17 hK17 => ?_
    refine T.cond_t rfl ?_
    refine T.skip ?_
    refine hK17 _ _ ?_
    refine T.block ?_
    refine T.seq fun K18 hK18 => ?_
    refine T.region (l := [0, 1, 2, 3]) rfl ?_
    refine RN.p rfl (p_extract rfl rfl rfl) ?_
    refine RN.p rfl (p_extract rfl rfl rfl) ?_
    refine RN.a rfl ?_
    refine RN.a rfl ?_
    refine RN.nil ?_
    refine hK18 _ _ ?_
    refine T.seq fun K19 hK19 => ?_
    refine T.region (l := [0, 1, 2, 3, 4, 5]) rfl ?_
    refine RN.m rfl ?_
    refine RN.C [] rfl rfl rfl rfl (c_call rfl rfl) (Blank_spec (dec (l.drop f) p).1) rfl ?_
    rintro _ _ ⟨rfl, rfl⟩
    refine RN.m rfl ?_
    first | refine RN.split_dec 34 rfl (fun h34 => ?_) (fun h34 => ?_) | refine RN.split 34 rfl (fun h34 => ?_) (fun h34 => ?_)
    ·
     refine RN.no0 rfl ?_
     refine RN.no0 rfl ?_
     refine RN.pt rfl ?_
     refine RN.nil ?_
     refine hK19 _ _ ?_
     refine T.cond_t rfl ?_
     refine T.seq fun K20 hK20 => ?_
     refine T.region (l := [0, 1, 2, 3]) rfl ?_
     refine RN.m rfl ?_
     refine RN.m rfl ?_
     refine RN.p rfl (by first | exact (p_addN rfl rfl rfl (by rw [List.length_drop] at hp; omega)) | exact (p_add rfl rfl rfl (by rw [List.length_drop] at hp; omega))) ?_
     refine RN.a rfl ?_
     refine RN.nil ?_
     refine hK20 _ _ ?_
     refine T.exit ?_
     refine Post.block_miss rfl ?_
     refine Post.seq_x ?_
     refine Post.block_hit ?_
     refine ⟨p, (first_here hc hlt (stop_blank hlt h34)), (LiveIs.cons rfl (LiveIs.cons rfl (LiveIs.cons rfl LiveIs.nil))), (Ent.pull_drop (is := [1]) rfl)⟩
    ·
     refine RN.m rfl ?_
     refine RN.p rfl (p_eql rfl rfl rfl) ?_
     refine RN.pf rfl ?_
     refine RN.nil ?_
     refine hK19 _ _ ?_
     first | refine T.cond_dec rfl (fun h37 => ?_) (fun h37 => ?_) | refine T.cond rfl (fun h37 => ?_) (fun h37 => ?_)
     ·
      refine T.seq fun K21 hK21 => ?_
      refine T.region (l := [0, 1, 2, 3]) rfl ?_
      refine RN.m rfl ?_
      refine RN.m rfl ?_
      refine RN.p rfl (by first | exact (p_addN rfl rfl rfl (by rw [List.length_drop] at hp; omega)) | exact (p_add rfl rfl rfl (by rw [List.length_drop] at hp; omega))) ?_
      refine RN.a rfl ?_
      refine RN.nil ?_
      refine hK21 _ _ ?_
      refine T.exit ?_
      refine Post.block_miss rfl ?_
      refine Post.seq_x ?_
      refine Post.block_hit ?_
      refine ⟨p, (first_here hc hlt (stop_nl hlt (by omega))), (LiveIs.cons rfl (LiveIs.cons rfl (LiveIs.cons rfl LiveIs.nil))), (Ent.pull_drop (is := [1]) rfl)⟩
     ·
      refine T.skip ?_
      refine ⟨p + (dec (l.drop f) p).2, ⟨(dec_step hlt).2, clear_dec hc hlt stop_small (not_stop hlt h34 (by omega))⟩, (by have := dec_step hlt; show _ - (p + _) < _ - p; omega), (LiveIs.cons rfl (LiveIs.cons rfl (LiveIs.cons rfl (LiveIs.cons rfl LiveIs.nil)))), Ent.refl _⟩
   ·
    refine RN.E rfl rfl rfl rfl (e_next_end rfl rfl (i := 0) rfl (by omega)) ?_
    rintro _ _ ⟨rfl, rfl⟩
    refine RN.p rfl (p_extract rfl rfl rfl) ?_
    refine RN.nil ?_
    refine hK16 _ _ ?_
    refine T.seq fun K22 hK22 => ?_
    refine T.cond_f rfl ?_
    refine T.exit ?_
    refine Post.seq_x ?_
    refine Post.seq_x ?_
    refine Post.block_hit ?_
    refine ⟨(l.drop f).length, (first_end (by rwa [show p = (l.drop f).length from by omega] at hc)), (LiveIs.cons rfl (LiveIs.cons rfl (LiveIs.cons (congrArg intV (by rw [List.length_drop]; omega)) LiveIs.nil))), (Ent.pull_drop (is := [1]) rfl)⟩
  ·
   rintro t e13 ht
   have htl := ht.le
   rw [List.length_drop] at htl
   refine T.seq fun K23 hK23 => ?_
   refine T.regionD (z := 9) (Bs := _) (l := [(0, .pure), (1, .pure), (2, .pure), (3, .pure), (4, .pure), (5, .pure), (6, .pure), (7, .pure), (8, .pure)]) mixed (by kernel_rfl) (Ent.refl _) ?_
   refine RD.n rfl (p_move rfl (by conv => lhs; whnf)) ?_
   refine RD.n rfl (p_move rfl (by conv => lhs; whnf)) ?_
   refine RD.n rfl (p_move rfl (by conv => lhs; whnf)) ?_
   refine RD.n rfl (by first | exact (p_sliceN_s rfl Tryd.underlying9 rfl rfl rfl (by omega)) | exact (p_slice_s rfl Tryd.underlying9 rfl rfl rfl (by omega))) ?_
   refine RD.n rfl (p_move rfl (by conv => lhs; whnf)) ?_
   refine RD.n rfl (p_move rfl (by conv => lhs; whnf)) ?_
   refine RD.n rfl (by first | exact (p_slice_s_lo rfl Tryd.underlying9 rfl rfl (by omega)) | exact (p_sliceN_s rfl Tryd.underlying9 rfl rfl rfl (by omega)) | exact (p_slice_s rfl Tryd.underlying9 rfl rfl rfl (by omega))) ?_
   refine RD.n rfl (p_assign rfl (by conv => lhs; whnf)) ?_
   refine RD.n rfl (p_assign rfl (by conv => lhs; whnf)) ?_
   refine RD.nil ?_
   refine hK23 _ _ ?_
   refine T.ret ?_
   refine bodyQ_ret [] (RetRun.tmp (RetRun.tmp RetRun.nil)) ⟨_, _, rfl, ⟨f, t, hf, ht, by rw [List.drop_take, Nat.add_sub_cancel_left], rfl⟩, rfl⟩ (Ent.refl _)

theorem Word_f (l : List UInt8) (hl : l.length ≤ 9223372036854775807) : Ctr Tryd.prog 5 [strV l] [] (fun w Ps => w = .tuple #[strV (wordF l).1, strV (wordF l).2] ∧ Ps = []) :=
 (Word_spec l hl).mono (Ent.refl _) fun w Ps ⟨a, b, h1, h2, h3⟩ => by
  obtain ⟨rfl, rfl⟩ := word_f h2
  exact ⟨Ps, ⟨h1, h3⟩, Ent.refl _⟩
theorem TrimP_spec (w : List UInt8) : Ctr Tryd.prog 37 [strV w, strV [45]] [] (fun u Ps => u = strV (trimM w) ∧ Ps = []) :=
 Ctr.ofSame ⟨_, Tryd.func37, by kernel_rfl, by kernel_rfl⟩ fun W0 Fr w0 hs => by
  have h := Any.strings_TrimPrefix lays101 ⟨w.toArray⟩ ⟨#[45]⟩ w0
  rw [show Lib.trimPrefix (ByteArray.mk w.toArray).data.toList (ByteArray.mk #[45]).data.toList = trimM w from trimM_eq w] at h
  exact h
theorem TrimL_spec (l : List UInt8) : Ctr Tryd.prog 24 [strV l, strV [32, 9]] [] (fun u Ps => u = strV (dropB l) ∧ Ps = []) :=
 Ctr.ofBelow ⟨_, Tryd.func24, by kernel_rfl, by kernel_rfl⟩ fun W0 Fr w0 hs => by
  have h := Any.strings_TrimLeft_laid lays161 (by kernel_rfl) ⟨l.toArray⟩ ⟨#[32, 9]⟩ w0 (by decide) (fun j b hb => by
   have hb : ([32, 9] : List UInt8)[j]? = some b := hb
   match j, hb with
   | 0, hb => cases hb; decide
   | 1, hb => cases hb; decide)
  rw [show Lib.trimLeftS (ByteArray.mk l.toArray).data.toList (ByteArray.mk #[32, 9]).data.toList = dropB l from dropB_eq l] at h
  exact h
theorem below_bytes (w : World) (e : TypeId) (s : ByteArray) : Below w.heap.size w (Lib.bytesWorld w e s) := by
 unfold Lib.bytesWorld World.freeze
 have h1 : Below w.heap.size w (w.drew.alloc (.cells (Lib.bytesCells w e s) e)) := ⟨rfl, rfl, rfl, by show w.heap.size ≤ (w.heap.push _).size; rw [Array.size_push]; omega, fun k hk => by
  show (w.heap.push _)[k]? = _
  rw [Array.getElem?_push, if_neg (by omega)]⟩
 split
 · exact h1
 ·
  refine ⟨rfl, rfl, rfl, ?_, fun k hk => ?_⟩
  · simp
  ·
   show (Array.modify _ _ _)[k]? = _
   rw [Array.getElem?_modify, if_neg (by show ¬ w.heap.size = k; omega)]
   exact h1.block k hk
theorem Atoi_spec (w : List UInt8) (v : Int) (hv : numP w = some v) : Ctr Tryd.prog 38 [strV w] [] (fun u Ps => u = .tuple #[.int .i64 v, .nilIface] ∧ Ps = []) :=
 Ctr.ofBelow ⟨_, Tryd.func38, by kernel_rfl, by kernel_rfl⟩ fun W0 Fr w0 hs => by
  obtain ⟨h1, h2⟩ := numP_atoi hv
  refine (Any.strconv_Atoi lays172 ⟨w.toArray⟩ v (by show w.toArray.size ≤ 18; simp; omega) h1 w0).mono fun e w' ⟨he, t, ht⟩ => ⟨he, ?_⟩
  rw [ht]
  exact below_bytes _ _ _
theorem dig_of {c : UInt8} (h1 : 48 ≤ c.toNat) (h2 : c.toNat ≤ 57) : Lib.digitVal c = some (c.toNat - 48) := by unfold Lib.digitVal; rw [if_pos ⟨h1, h2⟩]
theorem not_dig {d : List UInt8} {p : Nat} (hp : p < d.length) (h : (dec d p).1 < 48 ∨ 57 < (dec d p).1) : Lib.decFrom 0 d = none := by
 cases hd : Lib.decFrom 0 d with
 | none => rfl
 | some n =>
  obtain ⟨u, hu⟩ := Lib.digit_of_decFrom _ _ _ hd p d[p] (List.getElem?_eq_getElem hp)
  have hu := Lib.digitVal_eq hu
  rw [dec_low hp (by omega)] at h
  omega
theorem dig_step {d : List UInt8} {p m : Nat} (hp : p < d.length) (h1 : 48 ≤ (dec d p).1) (h2 : (dec d p).1 ≤ 57) (h : Lib.decFrom 0 (d.take p) = some m) : (dec d p).2 = 1 ∧ ∃ m', Lib.decFrom 0 (d.take (p + 1)) = some m' := by
 have hl : d[p].toNat < 128 := by
  rcases Nat.lt_or_ge d[p].toNat 128 with g | g
  · exact g
  · have := (dec_high hp (by omega)).1; omega
 have e := dec_low hp hl
 have e1 : (dec d p).1 = d[p].toNat := congrArg Prod.fst e
 exact ⟨congrArg Prod.snd e, _, Lib.decFrom_take _ _ _ _ _ _ h (List.getElem?_eq_getElem hp) (dig_of (by omega) (by omega))⟩
theorem Number_spec (w : List UInt8) (hw : w.length ≤ 1000000000) : Ctr Tryd.prog 25 [strV w] [] (fun u Ps => ∃ v ok, u = .tuple #[.int .i64 v, .bool ok] ∧ ((ok = true ∧ numP w = some v) ∨ (ok = false ∧ numP w = none)) ∧ Ps = []) := by
 refine Ctr.of_body Tryd.func25 rfl (by kernel_rfl) Tryd.ntmps25 rfl rfl (fun Fr => ?_)
 refine T.seq fun K1 hK1 => ?_
 refine T.region (l := [0, 1]) rfl ?_
 refine RN.a rfl ?_
 refine RN.a rfl ?_
 refine RN.nil ?_
 refine hK1 _ _ ?_
 refine T.seq fun K2 hK2 => ?_
 refine T.region (l := [0, 1, 2]) rfl ?_
 refine RN.m rfl ?_
 refine RN.C [] rfl rfl rfl rfl (c_call rfl rfl) (TrimP_spec w) rfl ?_
 rintro _ _ ⟨rfl, rfl⟩
 refine RN.a rfl ?_
 refine RN.nil ?_
 refine hK2 _ _ ?_
 refine T.seq fun K3 hK3 => ?_
 refine T.seq fun K4 hK4 => ?_
 refine T.region (l := [0, 1, 2, 3, 4, 5, 6]) rfl ?_
 refine RN.m rfl ?_
 refine RN.p rfl (p_seql rfl rfl rfl) ?_
 refine RN.m rfl ?_
 first | refine RN.split_dec 13 rfl (fun h13 => ?_) (fun h13 => ?_) | refine RN.split 13 rfl (fun h13 => ?_) (fun h13 => ?_)
 ·
  refine RN.no0 rfl ?_
  refine RN.no0 rfl ?_
  refine RN.no0 rfl ?_
  refine RN.pt rfl ?_
  refine RN.nil ?_
  refine hK4 _ _ ?_
  refine T.cond_t rfl ?_
  refine T.seq fun K5 hK5 => ?_
  refine T.region (l := [0, 1]) rfl ?_
  refine RN.a rfl ?_
  refine RN.a rfl ?_
  refine RN.nil ?_
  refine hK5 _ _ ?_
  refine T.ret ?_
  refine Post.seq_r ?_
  refine bodyQ_ret [] (RetRun.tmp (RetRun.tmp RetRun.nil)) ⟨0, false, rfl, .inr ⟨rfl, by unfold numP; rw [if_pos (by first | exact .inl (by assumption) | exact .inr (by omega))]⟩, rfl⟩ (Ent.refl _)
 ·
  refine RN.m rfl ?_
  refine RN.p rfl (p_len_s rfl Tryd.underlying9 rfl) ?_
  refine RN.p rfl (p_gtr rfl rfl rfl) ?_
  refine RN.pf rfl ?_
  refine RN.nil ?_
  refine hK4 _ _ ?_
  first | refine T.cond_dec rfl (fun h17 => ?_) (fun h17 => ?_) | refine T.cond rfl (fun h17 => ?_) (fun h17 => ?_)
  ·
   refine T.seq fun K6 hK6 => ?_
   refine T.region (l := [0, 1]) rfl ?_
   refine RN.a rfl ?_
   refine RN.a rfl ?_
   refine RN.nil ?_
   refine hK6 _ _ ?_
   refine T.ret ?_
   refine Post.seq_r ?_
   refine bodyQ_ret [] (RetRun.tmp (RetRun.tmp RetRun.nil)) ⟨0, false, rfl, .inr ⟨rfl, by unfold numP; rw [if_pos (by first | exact .inl (by assumption) | exact .inr (by omega))]⟩, rfl⟩ (Ent.refl _)
  ·
   have hgood : ¬ (trimM w = [] ∨ 9 < (trimM w).length) := by rintro (g | g) <;> first | (exact absurd g (by assumption)) | omega
   refine T.skip ?_
   refine hK3 _ _ ?_
   refine T.seq fun K7 hK7 => ?_
   refine T.seq fun K8 hK8 => ?_
   refine T.region (l := [0, 1]) rfl ?_
   refine RN.m rfl ?_
   refine RN.E rfl rfl rfl rfl (e_range rfl Tryd.underlying9 rfl) ?_
   rintro _ _ ⟨b19, rfl, rfl⟩
   refine RN.nil ?_
   refine hK8 _ _ ?_
   refine T.block ?_
   refine T.loop (G := Nat) (fun p => p ≤ (trimM w).length ∧ ∃ m, Lib.decFrom 0 ((trimM w).take p) = some m) (fun p => [(0, strV w), (19, ptr b19 0)]) (fun p => [iter b19 (trimM w) p, Fr]) (fun p => (trimM w).length - p) 0 ⟨Nat.zero_le _, 0, rfl⟩ (LiveIs.cons rfl (LiveIs.cons rfl LiveIs.nil)) (Ent.refl _) ?_
   rintro p e9 ⟨hp, hd⟩
   refine T.seq fun K10 hK10 => ?_
   refine T.region (l := [0, 1]) rfl ?_
   by_cases hlt : p < (trimM w).length
   ·
    refine RN.E rfl rfl rfl rfl (e_next_go rfl rfl (i := 0) rfl hlt) ?_
    rintro _ _ ⟨rfl, rfl⟩
    refine RN.p rfl (p_extract rfl rfl rfl) ?_
    refine RN.nil ?_
    refine hK10 _ _ ?_
    refine T.seq fun K11 hK11 => ?_
    refine T.cond_t rfl ?_
    refine T.skip ?_
    refine hK11 _ _ ?_
    refine T.block ?_
    refine T.seq fun K12 hK12 => ?_
    refine T.region (l := [0, 1]) rfl ?_
    refine RN.p rfl (p_extract rfl rfl rfl) ?_
    refine RN.a rfl ?_
    refine RN.nil ?_
    refine hK12 _ _ ?_
    refine T.seq fun K13 hK13 => ?_
    refine T.region (l := [0, 1, 2, 3, 4, 5]) rfl ?_
    refine RN.m rfl ?_
    refine RN.p rfl (p_lss rfl rfl rfl) ?_
    refine RN.m rfl ?_
    first | refine RN.split_dec 25 rfl (fun h25 => ?_) (fun h25 => ?_) | refine RN.split 25 rfl (fun h25 => ?_) (fun h25 => ?_)
    ·
     refine RN.no0 rfl ?_
     refine RN.no0 rfl ?_
     refine RN.pt rfl ?_
     refine RN.nil ?_
     refine hK13 _ _ ?_
     refine T.cond_t rfl ?_
     refine T.seq fun K14 hK14 => ?_
     refine T.region (l := [0, 1]) rfl ?_
     refine RN.a rfl ?_
     refine RN.a rfl ?_
     refine RN.nil ?_
     refine hK14 _ _ ?_
     refine T.ret ?_
     refine Post.block_r ?_
     refine Post.seq_r ?_
     refine Post.block_r ?_
     refine Post.seq_r ?_
     refine bodyQ_ret [] (RetRun.tmp (RetRun.tmp RetRun.nil)) ⟨0, false, rfl, .inr ⟨rfl, by unfold numP; rw [if_neg hgood, not_dig hlt (by omega)]; rfl⟩, rfl⟩ (Ent.pull_drop (is := [1]) rfl)
    ·
     refine RN.m rfl ?_
     refine RN.p rfl (p_gtr rfl rfl rfl) ?_
     refine RN.pf rfl ?_
     refine RN.nil ?_
     refine hK13 _ _ ?_
     first | refine T.cond_dec rfl (fun h28 => ?_) (fun h28 => ?_) | refine T.cond rfl (fun h28 => ?_) (fun h28 => ?_)
     ·
      refine T.seq fun K15 hK15 => ?_
      refine T.region (l := [0, 1]) rfl ?_
      refine RN.a rfl ?_
      refine RN.a rfl ?_
      refine RN.nil ?_
      refine hK15 _ _ ?_
      refine T.ret ?_
      refine Post.block_r ?_
      refine Post.seq_r ?_
      refine Post.block_r ?_
      refine Post.seq_r ?_
      refine bodyQ_ret [] (RetRun.tmp (RetRun.tmp RetRun.nil)) ⟨0, false, rfl, .inr ⟨rfl, by unfold numP; rw [if_neg hgood, not_dig hlt (by omega)]; rfl⟩, rfl⟩ (Ent.pull_drop (is := [1]) rfl)
     ·
      refine T.skip ?_
      refine ⟨p + (dec (trimM w) p).2, (by obtain ⟨m, hm⟩ := hd; obtain ⟨e1, e2⟩ := dig_step hlt (by omega) (by omega) hm; rw [e1]; exact ⟨hlt, e2⟩), (by have := dec_step hlt; show _ - (p + _) < _ - p; omega), (LiveIs.cons rfl (LiveIs.cons rfl LiveIs.nil)), Ent.refl _⟩
   ·
    refine RN.E rfl rfl rfl rfl (e_next_end rfl rfl (i := 0) rfl (by omega)) ?_
    rintro _ _ ⟨rfl, rfl⟩
    refine RN.p rfl (p_extract rfl rfl rfl) ?_
    refine RN.nil ?_
    refine hK10 _ _ ?_
    refine T.seq fun K16 hK16 => ?_
    refine T.cond_f rfl ?_
    refine T.exit ?_
    refine Post.seq_x ?_
    refine Post.seq_x ?_
    refine Post.block_hit ?_
    refine hK7 _ _ ?_
    refine T.seq fun K17 hK17 => ?_
    obtain ⟨m, hm⟩ := hd
    rw [show p = (trimM w).length from by omega, List.take_length] at hm
    obtain ⟨v, hv⟩ : ∃ v, numP w = some v := ⟨_, by unfold numP; rw [if_neg hgood, hm]; rfl⟩
    refine T.region (l := [0, 1, 2, 3, 4, 5, 6]) rfl ?_
    refine RN.m rfl ?_
    refine RN.C [] rfl rfl rfl rfl (c_call rfl rfl) (Atoi_spec w v hv) rfl ?_
    rintro _ _ ⟨rfl, rfl⟩
    refine RN.m rfl ?_
    refine RN.p rfl (p_extract rfl rfl rfl) ?_
    refine RN.p rfl (p_extract rfl rfl rfl) ?_
    refine RN.a rfl ?_
    refine RN.a rfl ?_
    refine RN.nil ?_
    refine hK17 _ _ ?_
    refine T.seq fun K18 hK18 => ?_
    refine T.regionD (z := 5) (Bs := _) (l := [(0, .pure), (1, .pure), (2, .pure), (3, .pure), (4, .pure)]) mixed (by kernel_rfl) (Ent.refl _) ?_
    refine RD.n rfl (p_move rfl (by conv => lhs; whnf)) ?_
    refine RD.n rfl (p_move rfl (by conv => lhs; whnf)) ?_
    refine RD.n rfl (p_ifeql_nil rfl rfl Tryd.underlying59) ?_
    refine RD.n rfl (p_assign rfl (by conv => lhs; whnf)) ?_
    refine RD.n rfl (p_assign rfl (by conv => lhs; whnf)) ?_
    refine RD.nil ?_
    refine hK18 _ _ ?_
    refine T.ret ?_
    refine bodyQ_ret [] (RetRun.tmp (RetRun.tmp RetRun.nil)) ⟨v, true, rfl, .inl ⟨rfl, hv⟩, rfl⟩ (Ent.pull_drop (is := [1]) rfl)

end Go.Proofs.YtokbjejbgbdkoaaDoor
