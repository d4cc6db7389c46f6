/-
  Regions in a drawn order of which two effects may come up either way: a tree of orders. It proves nothing of the program by itself.
-/
import Derived.Test.YticfabhcfdmbjaaSl4
import Derived.Test.YticfabhcfdmbjaaYtKey
import Derived.Test.YticfabhcfdmbjaaYtChg
import Derived.Test.YticfabhcfdmbjaaModelW
set_option linter.unusedVariables false
set_option linter.unusedSimpArgs false
namespace Go.Sl
open Go
/-- A tree of orders: a list, then two effects that may come up either way. -/
inductive OT where
  | go (l : List (Nat × Kd3))
  | br (l : List (Nat × Kd3)) (i : Nat) (s : OT) (j : Nat) (t : OT)
section orders
variable {P : Program} {ops : Array Oper} {Q : Exit → Act → World → Prop} {md : Region.Mode} {S : World → Prop} {z : Nat}
def oneReady (md : Region.Mode) (ops : Array Oper) (i : Nat) (listed : Array Bool) : Bool := match Region.ready md ops listed with
  | [j] => Nat.beq i j && Nat.blt i listed.size
  | _ => false
/-- What is listed behind the list, if it may be walked for all. -/
def ordPre (md : Region.Mode) (ops : Array Oper) (z : Nat) : List (Nat × Kd3) → Array Bool → Option (Array Bool)
  | [], listed => some listed
  | (i, .pure) :: l, listed => if (Region.ready md ops listed).contains i && Region.free md ops listed i && !(Nat.beq i z) then ordPre md ops z l (listed.setIfInBounds i true) else none
  | (i, .load) :: l, listed => if (Region.ready md ops listed).contains i && Region.free md ops listed i && waitsB md ops z i && !(listed.getD z false) then ordPre md ops z l (listed.setIfInBounds i true) else none
  | (i, .eff) :: l, listed => if oneReady md ops i listed then ordPre md ops z l (listed.setIfInBounds i true) else none
def ordTree (md : Region.Mode) (ops : Array Oper) (z : Nat) : OT → Nat → Array Bool → Bool
  | .go l, n, listed => Nat.beq l.length n && ordOk md ops z l listed
  | .br l i s j t, n, listed => match ordPre md ops z l listed with
    | none => false
    | some listed' => Nat.ble (l.length + 1) n && (match Region.ready md ops listed' with | [a, b] => Nat.beq a i && Nat.beq b j && Nat.blt i listed'.size && Nat.blt j listed'.size | _ => false)
        && ordTree md ops z s (n - l.length - 1) (listed'.setIfInBounds i true) && ordTree md ops z t (n - l.length - 1) (listed'.setIfInBounds j true)
theorem wpX_eff {Qn : Act → World → Prop} {R : Act → World → Prop} {i : Nat} {l : List (Nat × Kd3)} {a : Act} {w : World} {K : Act → World → Prop} {listed : Array Bool} (hi : i < listed.size)
    (h : wpX P ops S z Qn ((i, .eff) :: l) a w) (hk : ∀ a' w', (S w' ∨ (listed.setIfInBounds i true).getD z false = true) → wpX P ops S z Qn l a' w' → K a' w') :
    wpOp P ops (fun x a w => x = .normal ∧ R a w) i (fun a' w' => (S w' ∨ (listed.setIfInBounds i true).getD z false = true) ∧ K a' w') a w := by
  unfold wpX at h
  have hq : ∀ K : Act → World → Prop, wpOp P ops (fun _ _ _ => False) i K a w → wpOp P ops (fun x a w => x = .normal ∧ R a w) i K a w := by
    intro K
    unfold wpOp
    split
    · exact id
    · split
      · intro hh
        rcases hh with hh | ⟨_, _, _, hh⟩
        · left
          unfold Oper.wp at *
          generalize (execOp a.eval _).run P w = r at *
          cases r with
          | ok n w' =>
            cases n <;> simp only [Oper.upon] at hh ⊢ <;> first
              | exact hh
              | (refine Calls.mono hh fun e w'' he => ?_
                 cases e with
                 | returned u => exact he
                 | panicked c => exact he.elim
                 | outgrown => obtain ⟨_, _, he⟩ := he; exact he.elim)
          | halt x w' => cases x <;> simp only [Oper.upon] at hh ⊢
        · exact hh.elim
      · exact id
  refine hq _ (wpOp_mono (fun a' w' h3 => ?_) h)
  have hS' : S w' ∨ (listed.setIfInBounds i true).getD z false = true := by
    rcases h3.1 with g | g
    · exact .inl g
    · right; subst g; simp [hi]
  exact ⟨hS', hk a' w' hS' h3.2⟩
theorem wpX_pre {Qn R : Act → World → Prop} {n : Nat} {listed' : Array Bool} (hs : Region.noSelect ops = true)
    (hn : ∀ a w, (S w ∨ listed'.getD z false = true) → Qn a w → wpAnyG P md ops (fun x a w => x = .normal ∧ R a w) S z n listed' a w) : ∀ (l : List (Nat × Kd3)) (listed : Array Bool) (a : Act) (w : World),
    ordPre md ops z l listed = some listed' → (S w ∨ listed.getD z false = true) → wpX P ops S z Qn l a w →
    wpAnyG P md ops (fun x a w => x = .normal ∧ R a w) S z (l.length + n) listed a w
  | [], listed, a, w, ho, hS, h => by
    simp only [ordPre, Option.some.injEq] at ho
    subst ho
    rw [List.length_nil, Nat.zero_add]
    exact hn a w hS h
  | (i, .pure) :: l, listed, a, w, ho, hS, h => by
    simp only [ordPre] at ho
    split at ho
    · rename_i hc
      simp only [Bool.and_eq_true, Bool.not_eq_true'] at hc
      obtain ⟨⟨hr, hf⟩, hiz⟩ := hc
      obtain ⟨o, v, hi, hy, hnx⟩ := h
      rw [List.length_cons, show l.length + 1 + n = l.length + n + 1 from by omega]
      refine wpAnyG_pure hi (Region.noSelect_spec hs) (fun c a w hh => by cases hh.1) (fun g => by rw [g] at hiz; simp at hiz) (l.length + n) listed a w (Region.free_spec hi hf) (by simpa using hr) hy hS ?_
      exact wpX_pre hs hn l _ _ _ ho (hS.imp id getD_false_set) hnx
    · cases ho
  | (i, .load) :: l, listed, a, w, ho, hS, h => by
    simp only [ordPre] at ho
    split at ho
    · rename_i hc
      simp only [Bool.and_eq_true, Bool.not_eq_true'] at hc
      obtain ⟨⟨⟨hr, hf⟩, hw⟩, hlz⟩ := hc
      obtain ⟨o, v, hi, hy, hSw, hnx⟩ := h
      rw [List.length_cons, show l.length + 1 + n = l.length + n + 1 from by omega]
      refine wpAnyG_load hi (Region.noSelect_spec hs) (fun c a w hh => by cases hh.1) (waitsB_spec hw) (l.length + n) listed a w (Region.free_spec hi hf) (by simpa using hr) hlz hy hSw ?_
      exact wpX_pre hs hn l _ _ _ ho (.inl hSw) hnx
    · cases ho
  | (i, .eff) :: l, listed, a, w, ho, hS, h => by
    simp only [ordPre] at ho
    split at ho
    · rename_i hr
      have hrr : Region.ready md ops listed = [i] ∧ i < listed.size := by
        unfold oneReady at hr
        split at hr
        · rename_i j hj
          simp only [Bool.and_eq_true] at hr
          rw [hj, Nat.eq_of_beq_eq_true hr.1]
          refine ⟨rfl, by have := hr.2; rw [Nat.eq_of_beq_eq_true hr.1] at this; simpa using this⟩
        · cases hr
      rw [List.length_cons, show l.length + 1 + n = l.length + n + 1 from by omega]
      refine ⟨fun h0 => (by rw [hrr.1] at h0; cases h0), fun j hj => ?_⟩
      rw [hrr.1] at hj
      simp only [List.mem_singleton] at hj
      subst hj
      exact wpX_eff hrr.2 h fun a' w' hS' h' => wpX_pre hs hn l _ _ _ ho hS' h'
    · cases ho
/-- The tree, walked. -/
def wpTr (P : Program) (ops : Array Oper) (S : World → Prop) (z : Nat) (Qn : Act → World → Prop) : OT → Act → World → Prop
  | .go l, a, w => wpX P ops S z Qn l a w
  | .br l i s j t, a, w => wpX P ops S z (fun a w => wpX P ops S z (fun a w => wpTr P ops S z Qn s a w) [(i, .eff)] a w ∧ wpX P ops S z (fun a w => wpTr P ops S z Qn t a w) [(j, .eff)] a w) l a w
theorem wpTr_G {Qn : Act → World → Prop} (hs : Region.noSelect ops = true) : ∀ (t : OT) (n : Nat) (listed : Array Bool) (a : Act) (w : World),
    ordTree md ops z t n listed = true → (S w ∨ listed.getD z false = true) → wpTr P ops S z Qn t a w →
    wpAnyG P md ops (fun x a w => x = .normal ∧ Qn a w) S z n listed a w
  | .go l, n, listed, a, w, ho, hS, h => by
    simp only [ordTree, Bool.and_eq_true] at ho
    rw [← Nat.eq_of_beq_eq_true ho.1]
    exact wpX_G hs l _ _ _ ho.2 hS h
  | .br l i s j t, n, listed, a, w, ho, hS, h => by
    simp only [ordTree] at ho
    split at ho
    · cases ho
    · rename_i listed' hp
      simp only [Bool.and_eq_true] at ho
      obtain ⟨⟨⟨hl, hr⟩, h1⟩, h2⟩ := ho
      have hl := Nat.le_of_ble_eq_true hl
      have hrr : Region.ready md ops listed' = [i, j] ∧ i < listed'.size ∧ j < listed'.size := by
        split at hr
        · rename_i a b hab
          simp only [Bool.and_eq_true] at hr
          obtain ⟨⟨⟨g1, g2⟩, g3⟩, g4⟩ := hr
          rw [hab, Nat.eq_of_beq_eq_true g1, Nat.eq_of_beq_eq_true g2]
          exact ⟨rfl, by simpa using g3, by simpa using g4⟩
        · cases hr
      rw [show n = l.length + (n - l.length - 1 + 1) from by omega]
      refine wpX_pre hs (fun a w hS' h' => ?_) l _ _ _ hp hS h
      refine ⟨fun h0 => (by rw [hrr.1] at h0; cases h0), fun k hk => ?_⟩
      rw [hrr.1] at hk
      simp only [List.mem_cons, List.not_mem_nil, or_false] at hk
      rcases hk with rfl | rfl
      · exact wpX_eff hrr.2.1 h'.1 fun a' w' hS2 h2' => wpTr_G hs s _ _ _ _ h1 hS2 h2'
      · exact wpX_eff hrr.2.2 h'.2 fun a' w' hS2 h2' => wpTr_G hs t _ _ _ _ h2 hS2 h2'
end orders
theorem wpTr_region {P : Program} {id z : Nat} {ops : Array Oper} {S : World → Prop} {Qn : Act → World → Prop} {a : Act} {w : World} {t : OT} (hm : P.follows .mixedOrders = true)
    (hs : Region.noSelect ops = true) (ho : ordTree .any ops z t ops.size (Array.replicate ops.size false) = true) (hS : S w.drew)
    (h : wpTr P ops S z Qn t a w.drew) : (Code.region id ops true).wp P (fun x a w => x = .normal ∧ Qn a w) a w := by
  refine wp_region_any hm (wpAny_of_G (S := S) (z := z) _ _ _ _ ?_)
  exact wpTr_G hs t _ _ _ _ ho (.inl hS) h
section regions
variable {P : Program} {N : Nat} {ops : Array Oper} {Bs : List Assn} {z : Nat} {Q : Next1} {e : Env} {Hs : List Assn}
/-- A tree of orders. -/
def RDT (P : Program) (N : Nat) (ops : Array Oper) (Bs : List Assn) (z : Nat) (Q : Next1) : OT → Env → List Assn → Prop
  | .go l, e, Hs => RD P N ops Bs z Q l e Hs
  | .br l i s j t, e, Hs => RD P N ops Bs z (fun e Hs => RD P N ops Bs z (fun e Hs => RDT P N ops Bs z Q s e Hs) [(i, .eff)] e Hs ∧ RD P N ops Bs z (fun e Hs => RDT P N ops Bs z Q t e Hs) [(j, .eff)] e Hs) l e Hs
theorem RDT.go {l : List (Nat × Kd3)} (h : RD P N ops Bs z Q l e Hs) : RDT P N ops Bs z Q (.go l) e Hs := h
theorem RDT.br {l : List (Nat × Kd3)} {i j : Nat} {s t : OT} (h : RD P N ops Bs z (fun e Hs => RD P N ops Bs z (fun e Hs => RDT P N ops Bs z Q s e Hs) [(i, .eff)] e Hs ∧ RD P N ops Bs z (fun e Hs => RDT P N ops Bs z Q t e Hs) [(j, .eff)] e Hs) l e Hs) :
    RDT P N ops Bs z Q (.br l i s j t) e Hs := h
theorem wpX_mono {S : World → Prop} {Qn Qn' : Act → World → Prop} (h : ∀ a w, Qn a w → Qn' a w) : ∀ (l : List (Nat × Kd3)) (a : Act) (w : World), wpX P ops S z Qn l a w → wpX P ops S z Qn' l a w
  | [], a, w, hh => h a w hh
  | (i, .pure) :: l, a, w, ⟨o, v, h1, h2, h3⟩ => ⟨o, v, h1, h2, wpX_mono h l _ _ h3⟩
  | (i, .load) :: l, a, w, ⟨o, v, h1, h2, h3, h4⟩ => ⟨o, v, h1, h2, h3, wpX_mono h l _ _ h4⟩
  | (i, .eff) :: l, a, w, hh => wpOp_mono (fun a' w' h3 => ⟨h3.1, wpX_mono h l _ _ h3.2⟩) hh
theorem RDT.spec {W0 : World} : ∀ (t : OT) {e : Env} {Hs : List Assn} {a : Act} {w : World}, RDT P N ops Bs z Q t e Hs → EnvOk N a e → Sat W0 (sep Hs) w →
    wpTr P ops (Sat W0 (sep Bs)) z (fun a' w' => ∃ e' Hs', EnvOk N a' e' ∧ Sat W0 (sep Hs') w' ∧ Q e' Hs') t a w
  | .go l, e, Hs, a, w, h, ha, hs => h W0 a w ha hs
  | .br l i s j t, e, Hs, a, w, h, ha, hs => by
    have h : RD P N ops Bs z _ l e Hs := h
    refine wpX_mono (fun a1 w1 => ?_) l _ _ (h W0 a w ha hs)
    rintro ⟨e1, H1, ha1, hs1, g1, g2⟩
    refine ⟨wpX_mono (fun a2 w2 => ?_) _ _ _ (g1 W0 a1 w1 ha1 hs1), wpX_mono (fun a2 w2 => ?_) _ _ _ (g2 W0 a1 w1 ha1 hs1)⟩
    · rintro ⟨e2, H2, ha2, hs2, g⟩
      exact RDT.spec s g ha2 hs2
    · rintro ⟨e2, H2, ha2, hs2, g⟩
      exact RDT.spec t g ha2 hs2
theorem T.regionT {id : Nat} {R : Post} {t : OT} (hm : P.follows .mixedOrders = true)
    (ho : (Region.noSelect ops && ordTree .any ops z t ops.size (Array.replicate ops.size false)) = true) (hB : Ent (sep Hs) (sep Bs))
    (h : RDT P N ops Bs z (fun e H => R .normal e H) t e Hs) : T P N (.region id ops true) R e Hs := by
  simp only [Bool.and_eq_true] at ho
  intro W0 a w ha hs
  refine wp_mono (wpTr_region hm ho.1 ho.2 (hs.mono hB).drew (RDT.spec t h ha hs.drew)) ?_
  rintro x a' w' ⟨rfl, e', H', h1, h2, h3⟩
  exact ⟨e', H', h1, h2, h3⟩
end regions
end Go.Sl
namespace Go.Proofs.Yticfabhcfdmbjaa
open Go Go.Sl Go.Proofs
set_option maxRecDepth 20000
open Go.Mo
theorem Ahead_spec (p q : Pg) : Ctr Try.prog 45 [.agg p.cells.toArray, .agg q.cells.toArray] [] (fun v Ps => v = .bool (decide (ltK p.key q.key)) ∧ Ps = []) := by
  refine Ctr.of_body Try.func45 rfl (by kernel_rfl) Try.ntmps45 rfl rfl (fun Fr => ?_)
  refine T.seq fun K1 hK1 => ?_
  refine T.region (l := [0, 1, 2]) rfl ?_
  refine RN.E rfl rfl rfl rfl (e_box rfl rfl rfl) ?_
  rintro _ _ ⟨b2, rfl, rfl⟩
  refine RN.E rfl rfl rfl rfl (e_box rfl rfl rfl) ?_
  rintro _ _ ⟨b3, rfl, rfl⟩
  refine RN.qq rfl rfl rfl rfl (PRun.q (p_assign rfl (by conv => lhs; whnf))) ?_
  refine RN.nil ?_
  refine hK1 _ _ ?_
  refine T.seq fun K2 hK2 => ?_
  refine T.seq fun K3 hK3 => ?_
  refine T.region (l := [0, 1, 2, 3, 4]) rfl ?_
  refine RN.qq rfl rfl rfl rfl (PRun.q (p_fieldAddr rfl fa_54_3 rfl)) ?_
  refine RN.qq rfl rfl rfl rfl (by first | exact (q_load rfl sc_48 rfl (i := 0) rfl rfl) | exact (q_load rfl sc_48 rfl (i := 1) rfl rfl) | exact (q_load rfl sc_48 rfl (i := 2) rfl rfl) | exact (q_load rfl sc_48 rfl (i := 3) rfl rfl) | exact (q_load rfl sc_48 rfl (i := 4) rfl rfl)) ?_
  refine RN.qq rfl rfl rfl rfl (PRun.q (p_fieldAddr rfl fa_54_3 rfl)) ?_
  refine RN.qq rfl rfl rfl rfl (by first | exact (q_load rfl sc_48 rfl (i := 0) rfl rfl) | exact (q_load rfl sc_48 rfl (i := 1) rfl rfl) | exact (q_load rfl sc_48 rfl (i := 2) rfl rfl) | exact (q_load rfl sc_48 rfl (i := 3) rfl rfl) | exact (q_load rfl sc_48 rfl (i := 4) rfl rfl)) ?_
  refine RN.qq rfl rfl rfl rfl (PRun.q (p_neq rfl rfl rfl)) ?_
  refine RN.nil ?_
  refine hK3 _ _ ?_
  first | refine T.cond_dec rfl (fun h9 => ?_) (fun h9 => ?_) | refine T.cond rfl (fun h9 => ?_) (fun h9 => ?_)
  ·
    refine T.seq fun K4 hK4 => ?_
    refine T.region (l := [0, 1, 2, 3, 4, 5]) rfl ?_
    refine RN.qq rfl rfl rfl rfl (PRun.q (p_fieldAddr rfl fa_54_3 rfl)) ?_
    refine RN.qq rfl rfl rfl rfl (by first | exact (q_load rfl sc_48 rfl (i := 0) rfl rfl) | exact (q_load rfl sc_48 rfl (i := 1) rfl rfl) | exact (q_load rfl sc_48 rfl (i := 2) rfl rfl) | exact (q_load rfl sc_48 rfl (i := 3) rfl rfl) | exact (q_load rfl sc_48 rfl (i := 4) rfl rfl)) ?_
    refine RN.qq rfl rfl rfl rfl (PRun.q (p_fieldAddr rfl fa_54_3 rfl)) ?_
    refine RN.qq rfl rfl rfl rfl (by first | exact (q_load rfl sc_48 rfl (i := 0) rfl rfl) | exact (q_load rfl sc_48 rfl (i := 1) rfl rfl) | exact (q_load rfl sc_48 rfl (i := 2) rfl rfl) | exact (q_load rfl sc_48 rfl (i := 3) rfl rfl) | exact (q_load rfl sc_48 rfl (i := 4) rfl rfl)) ?_
    refine RN.qq rfl rfl rfl rfl (PRun.q (p_lss rfl rfl rfl)) ?_
    refine RN.qq rfl rfl rfl rfl (PRun.q (p_assign rfl (by conv => lhs; whnf))) ?_
    refine RN.nil ?_
    refine hK4 _ _ ?_
    refine T.ret ?_
    refine Post.seq_r ?_
    refine bodyQ_ret [] (RetRun.tmp RetRun.nil) ⟨congrArg Value.bool (by rw [decide_eq_decide]; unfold ltK Pg.key; simp only; omega), rfl⟩ (Ent.pull_drop (is := [2]) rfl)
  ·
    refine T.skip ?_
    refine hK2 _ _ ?_
    refine T.seq fun K5 hK5 => ?_
    refine T.seq fun K6 hK6 => ?_
    refine T.region (l := [0, 1, 2, 3, 4]) rfl ?_
    refine RN.qq rfl rfl rfl rfl (PRun.q (p_fieldAddr rfl fa_54_0 rfl)) ?_
    refine RN.qq rfl rfl rfl rfl (by first | exact (q_load rfl sc_3 rfl (i := 0) rfl rfl) | exact (q_load rfl sc_3 rfl (i := 1) rfl rfl) | exact (q_load rfl sc_3 rfl (i := 2) rfl rfl) | exact (q_load rfl sc_3 rfl (i := 3) rfl rfl) | exact (q_load rfl sc_3 rfl (i := 4) rfl rfl)) ?_
    refine RN.qq rfl rfl rfl rfl (PRun.q (p_fieldAddr rfl fa_54_0 rfl)) ?_
    refine RN.qq rfl rfl rfl rfl (by first | exact (q_load rfl sc_3 rfl (i := 0) rfl rfl) | exact (q_load rfl sc_3 rfl (i := 1) rfl rfl) | exact (q_load rfl sc_3 rfl (i := 2) rfl rfl) | exact (q_load rfl sc_3 rfl (i := 3) rfl rfl) | exact (q_load rfl sc_3 rfl (i := 4) rfl rfl)) ?_
    refine RN.qq rfl rfl rfl rfl (PRun.q (p_neq rfl rfl rfl)) ?_
    refine RN.nil ?_
    refine hK6 _ _ ?_
    first | refine T.cond_dec rfl (fun h19 => ?_) (fun h19 => ?_) | refine T.cond rfl (fun h19 => ?_) (fun h19 => ?_)
    ·
      refine T.seq fun K7 hK7 => ?_
      refine T.region (l := [0, 1, 2, 3, 4, 5]) rfl ?_
      refine RN.qq rfl rfl rfl rfl (PRun.q (p_fieldAddr rfl fa_54_0 rfl)) ?_
      refine RN.qq rfl rfl rfl rfl (by first | exact (q_load rfl sc_3 rfl (i := 0) rfl rfl) | exact (q_load rfl sc_3 rfl (i := 1) rfl rfl) | exact (q_load rfl sc_3 rfl (i := 2) rfl rfl) | exact (q_load rfl sc_3 rfl (i := 3) rfl rfl) | exact (q_load rfl sc_3 rfl (i := 4) rfl rfl)) ?_
      refine RN.qq rfl rfl rfl rfl (PRun.q (p_fieldAddr rfl fa_54_0 rfl)) ?_
      refine RN.qq rfl rfl rfl rfl (by first | exact (q_load rfl sc_3 rfl (i := 0) rfl rfl) | exact (q_load rfl sc_3 rfl (i := 1) rfl rfl) | exact (q_load rfl sc_3 rfl (i := 2) rfl rfl) | exact (q_load rfl sc_3 rfl (i := 3) rfl rfl) | exact (q_load rfl sc_3 rfl (i := 4) rfl rfl)) ?_
      refine RN.qq rfl rfl rfl rfl (PRun.q (p_lss rfl rfl rfl)) ?_
      refine RN.qq rfl rfl rfl rfl (PRun.q (p_assign rfl (by conv => lhs; whnf))) ?_
      refine RN.nil ?_
      refine hK7 _ _ ?_
      refine T.ret ?_
      refine Post.seq_r ?_
      refine bodyQ_ret [] (RetRun.tmp RetRun.nil) ⟨congrArg Value.bool (by rw [decide_eq_decide]; unfold ltK Pg.key; simp only; omega), rfl⟩ (Ent.pull_drop (is := [2]) rfl)
    ·
      refine T.skip ?_
      refine hK5 _ _ ?_
      refine T.seq fun K8 hK8 => ?_
      refine T.region (l := [0, 1, 2, 3, 4, 5]) rfl ?_
      refine RN.qq rfl rfl rfl rfl (PRun.q (p_fieldAddr rfl fa_54_4 rfl)) ?_
      refine RN.qq rfl rfl rfl rfl (by first | exact (q_load rfl sc_48 rfl (i := 0) rfl rfl) | exact (q_load rfl sc_48 rfl (i := 1) rfl rfl) | exact (q_load rfl sc_48 rfl (i := 2) rfl rfl) | exact (q_load rfl sc_48 rfl (i := 3) rfl rfl) | exact (q_load rfl sc_48 rfl (i := 4) rfl rfl)) ?_
      refine RN.qq rfl rfl rfl rfl (PRun.q (p_fieldAddr rfl fa_54_4 rfl)) ?_
      refine RN.qq rfl rfl rfl rfl (by first | exact (q_load rfl sc_48 rfl (i := 0) rfl rfl) | exact (q_load rfl sc_48 rfl (i := 1) rfl rfl) | exact (q_load rfl sc_48 rfl (i := 2) rfl rfl) | exact (q_load rfl sc_48 rfl (i := 3) rfl rfl) | exact (q_load rfl sc_48 rfl (i := 4) rfl rfl)) ?_
      refine RN.qq rfl rfl rfl rfl (PRun.q (p_lss rfl rfl rfl)) ?_
      refine RN.qq rfl rfl rfl rfl (PRun.q (p_assign rfl (by conv => lhs; whnf))) ?_
      refine RN.nil ?_
      refine hK8 _ _ ?_
      refine T.ret ?_
      refine bodyQ_ret [] (RetRun.tmp RetRun.nil) ⟨congrArg Value.bool (by rw [decide_eq_decide]; unfold ltK Pg.key; simp only; omega), rfl⟩ (Ent.pull_drop (is := [2]) rfl)

end Go.Proofs.Yticfabhcfdmbjaa
namespace Go.Proofs.Yticfabhcfdmbjaa
open Go Go.Sl Go.Proofs
set_option maxRecDepth 20000
open Go.Mo
theorem RWhole_spec (A : Assn) (lv : Value) (ps : List Pg) (p : Pg) (hA : Ent A (view 39 lv ps.length (pgs ps))) (hfit : ∀ q ∈ ps, q.fit) (hp : p ∈ ps) (hv : p.valid) (hlen : ps.length ≤ 65536) : Ctr Try.prog 46 [lv, .agg p.cells.toArray] [A] (RWholeQ A ps p) := by
  refine Ctr.of_body Try.func46 rfl (by kernel_rfl) Try.ntmps46 rfl rfl (fun Fr => ?_)
  refine T.peek (A := view 39 lv ps.length (pgs ps)) ((Ent.head _ _).trans hA) view_form ?_
  rintro ⟨q, cap, rfl, hcap, hcm, hsf⟩
  have hpf := hfit p hp
  obtain ⟨hl0, hl1⟩ := hpf.ok.lba
  obtain ⟨ht0, ht1⟩ := hpf.ok.total
  refine T.seq fun K1 hK1 => ?_
  refine T.region (l := [0, 1, 2]) rfl ?_
  refine RN.E rfl rfl rfl rfl (e_box rfl rfl rfl) ?_
  rintro _ _ ⟨b3, rfl, rfl⟩
  refine RN.E rfl rfl rfl rfl (e_alloc rfl ti_57) ?_
  rintro _ _ ⟨b4, rfl, rfl⟩
  refine RN.qq rfl rfl rfl rfl (PRun.q (p_assign rfl (by conv => lhs; whnf))) ?_
  refine RN.nil ?_
  refine hK1 _ _ ?_
  refine T.seq fun K2 hK2 => ?_
  refine T.region (l := [0, 1, 2, 3, 4, 5, 6, 7, 8]) rfl ?_
  refine RN.qq rfl rfl rfl rfl (PRun.q (p_fieldAddr rfl fa_54_0 rfl)) ?_
  refine RN.qq rfl rfl rfl rfl (q_load rfl sc_3 rfl (i := 1) rfl rfl) ?_
  refine RN.qq rfl rfl rfl rfl (PRun.q (p_fieldAddr rfl fa_54_3 rfl)) ?_
  refine RN.qq rfl rfl rfl rfl (q_load rfl sc_48 rfl (i := 1) rfl rfl) ?_
  refine RN.qq rfl rfl rfl rfl (PRun.q (p_fieldAddr rfl fa_54_4 rfl)) ?_
  refine RN.qq rfl rfl rfl rfl (q_load rfl sc_48 rfl (i := 1) rfl rfl) ?_
  refine RN.qq rfl rfl rfl rfl (PRun.q (p_build (cs := (strm p.kind p.epoch p.group (.slice none 0 0))) rfl pl_57 ti_57 rfl)) ?_
  refine RN.E rfl rfl rfl rfl (e_alloc rfl ti_57) ?_
  rintro _ _ ⟨b6, rfl, rfl⟩
  refine RN.EN rfl rfl rfl (e_storeA rfl ts_57 rfl rfl rfl (Sm.one rfl (k := ⟨p.kind, p.epoch, p.group⟩)) (i := 0) rfl (by simp)) ?_
  rintro _ _ ⟨rfl, rfl⟩
  simp only [setN]
  rw [lay_four rfl rfl]
  refine RN.nil ?_
  refine hK2 _ _ ?_
  refine T.seq fun K3 hK3 => ?_
  refine T.seq fun K4 hK4 => ?_
  refine T.regionD (z := 13) (Bs := [row b3 54 p.cells]) (l := [(0, .pure), (1, .load), (2, .pure), (3, .pure), (4, .pure), (5, .load), (6, .pure), (7, .pure), (8, .load), (9, .pure), (10, .eff), (11, .pure), (12, .pure)]) mixed (by kernel_rfl) (by first | exact Ent.refl _ | exact Ent.pull_drop (is := [0]) rfl | exact Ent.pull_drop (is := [1]) rfl | exact Ent.pull_drop (is := [2]) rfl | exact Ent.pull_drop (is := [3]) rfl | exact Ent.pull_drop (is := [4]) rfl | exact Ent.pull_drop (is := [5]) rfl | exact Ent.pull_drop (is := [6]) rfl | exact Ent.pull_drop (is := [7]) rfl) ?_
  refine RD.pp rfl rfl rfl rfl (p_fieldAddr rfl fa_54_1 rfl) ?_
  refine RD.qq rfl rfl rfl rfl (by first | exact (q_load rfl sc_48 rfl (i := 0) rfl rfl) | exact (q_load rfl sc_48 rfl (i := 1) rfl rfl) | exact (q_load rfl sc_48 rfl (i := 2) rfl rfl) | exact (q_load rfl sc_48 rfl (i := 3) rfl rfl) | exact (q_load rfl sc_48 rfl (i := 4) rfl rfl)) (by first | exact Ent.refl _ | exact Ent.pull_drop (is := [0]) rfl | exact Ent.pull_drop (is := [1]) rfl | exact Ent.pull_drop (is := [2]) rfl | exact Ent.pull_drop (is := [3]) rfl | exact Ent.pull_drop (is := [4]) rfl | exact Ent.pull_drop (is := [5]) rfl | exact Ent.pull_drop (is := [6]) rfl | exact Ent.pull_drop (is := [7]) rfl) ?_
  refine RD.pp rfl rfl rfl rfl (p_gtr rfl rfl rfl) ?_
  refine RD.pp rfl rfl rfl rfl (p_move rfl (by conv => lhs; whnf)) ?_
  first | refine RD.split_dec 26 rfl (fun h26 => ?_) (fun h26 => ?_) | refine RD.split 26 rfl (fun h26 => ?_) (fun h26 => ?_)
  ·
    have h65 : 65536 < p.lba := by omega
    refine RD.OP rfl rfl rfl rfl ?_
    refine RD.OL rfl rfl rfl rfl (by first | exact Ent.refl _ | exact Ent.pull_drop (is := [0]) rfl | exact Ent.pull_drop (is := [1]) rfl | exact Ent.pull_drop (is := [2]) rfl | exact Ent.pull_drop (is := [3]) rfl | exact Ent.pull_drop (is := [4]) rfl | exact Ent.pull_drop (is := [5]) rfl | exact Ent.pull_drop (is := [6]) rfl | exact Ent.pull_drop (is := [7]) rfl) ?_
    refine RD.OP rfl rfl rfl rfl ?_
    refine RD.OP rfl rfl rfl rfl ?_
    refine RD.OL rfl rfl rfl rfl (by first | exact Ent.refl _ | exact Ent.pull_drop (is := [0]) rfl | exact Ent.pull_drop (is := [1]) rfl | exact Ent.pull_drop (is := [2]) rfl | exact Ent.pull_drop (is := [3]) rfl | exact Ent.pull_drop (is := [4]) rfl | exact Ent.pull_drop (is := [5]) rfl | exact Ent.pull_drop (is := [6]) rfl | exact Ent.pull_drop (is := [7]) rfl) ?_
    refine RD.OP rfl rfl rfl rfl ?_
    refine RD.OE rfl rfl rfl rfl (.inl (by first | exact Ent.refl _ | exact Ent.pull_drop (is := [0]) rfl | exact Ent.pull_drop (is := [1]) rfl | exact Ent.pull_drop (is := [2]) rfl | exact Ent.pull_drop (is := [3]) rfl | exact Ent.pull_drop (is := [4]) rfl | exact Ent.pull_drop (is := [5]) rfl | exact Ent.pull_drop (is := [6]) rfl | exact Ent.pull_drop (is := [7]) rfl)) ?_
    refine RD.OP rfl rfl rfl rfl ?_
    refine RD.pp rfl rfl rfl rfl (p_pick_t rfl rfl (by conv => lhs; whnf)) ?_
    refine RD.nil ?_
    refine hK4 _ _ ?_
    refine T.cond_t rfl ?_
    refine T.seq fun K5 hK5 => ?_
    refine T.region (l := [0, 1, 2]) rfl ?_
    refine RN.qq rfl rfl rfl rfl (q_loadA (vs := (strm p.kind p.epoch p.group (.slice none 0 0))) rfl ag_57 ts_57 rfl (i := 0) rfl (by show 0 + 4 ≤ 4; omega) rfl) ?_
    refine RN.EN rfl rfl rfl (e_storeA rfl ts_57 rfl rfl rfl (Sm.one rfl (k := ⟨p.kind, p.epoch, p.group⟩)) (i := 1) rfl (by simp)) ?_
    rintro _ _ ⟨rfl, rfl⟩
    try simp only [setN]
    rw [lay_four rfl rfl]
    refine RN.qq rfl rfl rfl rfl (PRun.q (p_assign rfl (by conv => lhs; whnf))) ?_
    refine RN.nil ?_
    refine hK5 _ _ ?_
    refine T.ret ?_
    refine Post.seq_r ?_
    refine bodyQ_ret [sep [], A] (RetRun.cell rfl (load_var (vs := (strm p.kind p.epoch p.group (.slice none 0 0))) ag_57 ts_57 (i := 1) rfl (by show 0 + 4 ≤ 4; omega) rfl) (RetRun.tmp RetRun.nil)) (RWholeQ_none hp hv (wholeW_big h65)) ((Ent.pull_drop (is := [3, 3]) rfl).trans (Ent.unflat [] _))
  ·
    have h65 : ¬ 65536 < p.lba := by omega
    refine RD.pp rfl rfl rfl rfl (p_fieldAddr rfl fa_54_6 rfl) ?_
    refine RD.qq rfl rfl rfl rfl (by first | exact (q_load rfl sc_48 rfl (i := 0) rfl rfl) | exact (q_load rfl sc_48 rfl (i := 1) rfl rfl) | exact (q_load rfl sc_48 rfl (i := 2) rfl rfl) | exact (q_load rfl sc_48 rfl (i := 3) rfl rfl) | exact (q_load rfl sc_48 rfl (i := 4) rfl rfl)) (by first | exact Ent.refl _ | exact Ent.pull_drop (is := [0]) rfl | exact Ent.pull_drop (is := [1]) rfl | exact Ent.pull_drop (is := [2]) rfl | exact Ent.pull_drop (is := [3]) rfl | exact Ent.pull_drop (is := [4]) rfl | exact Ent.pull_drop (is := [5]) rfl | exact Ent.pull_drop (is := [6]) rfl | exact Ent.pull_drop (is := [7]) rfl) ?_
    refine RD.pp rfl rfl rfl rfl (p_conv_i64 rfl Try.underlying48 Try.underlying3 rfl (by omega)) ?_
    refine RD.pp rfl rfl rfl rfl (p_fieldAddr rfl fa_54_1 rfl) ?_
    refine RD.qq rfl rfl rfl rfl (by first | exact (q_load rfl sc_48 rfl (i := 0) rfl rfl) | exact (q_load rfl sc_48 rfl (i := 1) rfl rfl) | exact (q_load rfl sc_48 rfl (i := 2) rfl rfl) | exact (q_load rfl sc_48 rfl (i := 3) rfl rfl) | exact (q_load rfl sc_48 rfl (i := 4) rfl rfl)) (by first | exact Ent.refl _ | exact Ent.pull_drop (is := [0]) rfl | exact Ent.pull_drop (is := [1]) rfl | exact Ent.pull_drop (is := [2]) rfl | exact Ent.pull_drop (is := [3]) rfl | exact Ent.pull_drop (is := [4]) rfl | exact Ent.pull_drop (is := [5]) rfl | exact Ent.pull_drop (is := [6]) rfl | exact Ent.pull_drop (is := [7]) rfl) ?_
    refine RD.pp rfl rfl rfl rfl (p_conv_i64 rfl Try.underlying48 Try.underlying3 rfl (by omega)) ?_
    refine RD.C [] rfl rfl rfl rfl (c_call rfl rfl) (RPages_spec p.lba) rfl (by rintro _ _ ⟨rfl, rfl⟩; exact .inl (by first | exact Ent.refl _ | exact Ent.pull_drop (is := [0]) rfl | exact Ent.pull_drop (is := [1]) rfl | exact Ent.pull_drop (is := [2]) rfl | exact Ent.pull_drop (is := [3]) rfl | exact Ent.pull_drop (is := [4]) rfl | exact Ent.pull_drop (is := [5]) rfl | exact Ent.pull_drop (is := [6]) rfl | exact Ent.pull_drop (is := [7]) rfl)) ?_
    rintro _ _ ⟨rfl, rfl⟩
    rw [if_neg (by omega)]
    refine RD.pp rfl rfl rfl rfl (p_neq rfl rfl rfl) ?_
    refine RD.pp rfl rfl rfl rfl (p_pick_f rfl rfl (by conv => lhs; whnf)) ?_
    refine RD.nil ?_
    refine hK4 _ _ ?_
    first | refine T.cond_dec rfl (fun h35 => ?_) (fun h35 => ?_) | refine T.cond rfl (fun h35 => ?_) (fun h35 => ?_)
    ·
      have ht : ¬ p.total = ((pagesN p.lba.toNat) : Int) := by omega
      refine T.seq fun K6 hK6 => ?_
      refine T.region (l := [0, 1, 2]) rfl ?_
      refine RN.qq rfl rfl rfl rfl (q_loadA (vs := (strm p.kind p.epoch p.group (.slice none 0 0))) rfl ag_57 ts_57 rfl (i := 0) rfl (by show 0 + 4 ≤ 4; omega) rfl) ?_
      refine RN.EN rfl rfl rfl (e_storeA rfl ts_57 rfl rfl rfl (Sm.one rfl (k := ⟨p.kind, p.epoch, p.group⟩)) (i := 1) rfl (by simp)) ?_
      rintro _ _ ⟨rfl, rfl⟩
      try simp only [setN]
      rw [lay_four rfl rfl]
      refine RN.qq rfl rfl rfl rfl (PRun.q (p_assign rfl (by conv => lhs; whnf))) ?_
      refine RN.nil ?_
      refine hK6 _ _ ?_
      refine T.ret ?_
      refine Post.seq_r ?_
      refine bodyQ_ret [sep [], A] (RetRun.cell rfl (load_var (vs := (strm p.kind p.epoch p.group (.slice none 0 0))) ag_57 ts_57 (i := 1) rfl (by show 0 + 4 ≤ 4; omega) rfl) (RetRun.tmp RetRun.nil)) (RWholeQ_none hp hv (wholeW_total (List.mem_filter.2 ⟨hp, decide_eq_true ⟨hv, rfl⟩⟩) h65 ht)) ((Ent.pull_drop (is := [3, 3]) rfl).trans (Ent.unflat [] _))
    ·
      have ht : p.total = ((pagesN p.lba.toNat) : Int) := by omega
      refine T.skip ?_
      refine hK3 _ _ ?_
      refine T.cut (G := Unit) (fun ⟨⟩ => ¬ 65536 < p.lba ∧ p.total = ((pagesN p.lba.toNat) : Int)) (fun ⟨⟩ => [(0, .slice q ps.length cap), (3, ptr b3 0), (4, ptr b4 0), (6, ptr b6 0), (7, intV (pagesN p.lba.toNat))]) (fun ⟨⟩ => [row b4 57 [.int .i64 0, u32V 0, u32V 0, .slice none 0 0], row b6 57 (strm p.kind p.epoch p.group (.slice none 0 0)), row b3 54 p.cells, A, Fr]) ?_ ?_
      ·
        refine T.region (l := [0, 1, 2, 3]) rfl ?_
        refine RN.qq rfl rfl rfl rfl (PRun.q (p_fieldAddr rfl fa_54_6 rfl)) ?_
        refine RN.qq rfl rfl rfl rfl (q_load rfl sc_48 rfl (i := 2) rfl rfl) ?_
        refine RN.qq rfl rfl rfl rfl (PRun.q (p_conv_i64 rfl Try.underlying48 Try.underlying3 rfl (by omega))) ?_
        refine RN.qq rfl rfl rfl rfl (PRun.q (p_assign rfl (by conv => lhs; whnf))) ?_
        refine RN.nil ?_
        refine ⟨(), ⟨h65, ht⟩, (LiveIs.cons rfl (LiveIs.cons rfl (LiveIs.cons rfl (LiveIs.cons rfl (LiveIs.cons (congrArg (Value.int .i64) ht) LiveIs.nil))))), (Ent.pull_drop (is := [1, 0, 0, 0, 0]) rfl)⟩
      ·
        rintro ⟨⟩ e7 ⟨h65, ht⟩
        have hTN := pagesN_le (n := p.lba.toNat) (by omega)
        refine T.seq fun K8 hK8 => ?_
        refine T.region (l := [0, 1, 2]) rfl ?_
        refine RN.qq rfl rfl rfl rfl (PRun.q (p_move rfl (by conv => lhs; whnf))) ?_
        refine RN.E rfl rfl rfl rfl (by first | exact (e_makeSliceN rfl Try.underlying104 ti_4 rfl rfl rfl (by omega)) | exact (e_makeSlice rfl Try.underlying104 ti_4 rfl rfl rfl (by omega))) ?_
        rintro _ _ ⟨b41, rfl, rfl⟩
        refine RN.qq rfl rfl rfl rfl (PRun.q (p_assign rfl (by conv => lhs; whnf))) ?_
        refine RN.nil ?_
        refine hK8 _ _ ?_
        refine T.seq fun K9 hK9 => ?_
        refine T.region (l := [0, 1, 2, 3]) rfl ?_
        refine RN.qq rfl rfl rfl rfl (PRun.q (p_move rfl (by conv => lhs; whnf))) ?_
        refine RN.qq rfl rfl rfl rfl (PRun.q (by first | exact (p_mulN (b := 32) rfl rfl rfl (by omega)) | exact (p_mul rfl rfl rfl (by omega)))) ?_
        refine RN.E rfl rfl rfl rfl (by first | exact (e_makeSliceN rfl Try.underlying49 ti_5 rfl rfl rfl (by omega)) | exact (e_makeSlice rfl Try.underlying49 ti_5 rfl rfl rfl (by omega))) ?_
        rintro _ _ ⟨b44, rfl, rfl⟩
        refine RN.qq rfl rfl rfl rfl (PRun.q (p_assign rfl (by conv => lhs; whnf))) ?_
        refine RN.nil ?_
        refine hK9 _ _ ?_
        refine T.seq fun K10 hK10 => ?_
        refine T.seq fun K11 hK11 => ?_
        refine T.region (l := [0]) rfl ?_
        refine RN.qq rfl rfl rfl rfl (PRun.q (p_assign rfl (by conv => lhs; whnf))) ?_
        refine RN.nil ?_
        refine hK11 _ _ ?_
        refine T.block ?_
        refine T.loop (G := Nat × List (Option Pay)) (fun ⟨i, pt⟩ => i ≤ ps.length ∧ wfold p.lba (pagesN p.lba.toNat) (some (List.replicate (pagesN p.lba.toNat) none)) (selF p (ps.take i)) = some pt ∧ Full pt ∧ pt.length = (pagesN p.lba.toNat)) (fun ⟨i, pt⟩ => [(0, .slice q ps.length cap), (3, ptr b3 0), (4, ptr b4 0), (6, ptr b6 0), (7, intV (pagesN p.lba.toNat)), (8, slc b41 0 (pagesN p.lba.toNat) (pagesN p.lba.toNat)), (9, slc b44 0 ((pagesN p.lba.toNat) * 32) ((pagesN p.lba.toNat) * 32)), (10, intV i)]) (fun ⟨i, pt⟩ => [row b4 57 [.int .i64 0, u32V 0, u32V 0, .slice none 0 0], row b6 57 (strm p.kind p.epoch p.group (.slice none 0 0)), row b3 54 p.cells, row b41 4 (haveL pt), row b44 5 ((bufL pt).map u8V), A, Fr]) (fun ⟨i, pt⟩ => ps.length - i) (0, List.replicate (pagesN p.lba.toNat) none) ⟨Nat.zero_le _, rfl, full_none _, List.length_replicate ..⟩ (LiveIs.cons rfl (LiveIs.cons rfl (LiveIs.cons rfl (LiveIs.cons rfl (LiveIs.cons rfl (LiveIs.cons rfl (LiveIs.cons rfl (LiveIs.cons rfl LiveIs.nil)))))))) ?_ ?_
        · rw [have_zeros, buf_zeros]
          exact Ent.pull_drop (is := [2, 2, 2, 1, 0, 0, 0]) rfl
        rintro ⟨i, pt⟩ e12 ⟨hil, hw, hF, hpt⟩
        dsimp only
        refine T.seq fun K13 hK13 => ?_
        refine T.seq fun K14 hK14 => ?_
        refine T.region (l := [0, 1, 2, 3]) rfl ?_
        refine RN.qq rfl rfl rfl rfl (PRun.q (p_move rfl (by conv => lhs; whnf))) ?_
        refine RN.qq rfl rfl rfl rfl (PRun.q (p_move rfl (by conv => lhs; whnf))) ?_
        refine RN.qq rfl rfl rfl rfl (PRun.q (p_len rfl Try.underlying45 rfl)) ?_
        refine RN.qq rfl rfl rfl rfl (PRun.q (p_lss rfl rfl rfl)) ?_
        refine RN.nil ?_
        refine hK14 _ _ ?_
        first | refine T.cond_dec rfl (fun h48 => ?_) (fun h48 => ?_) | refine T.cond rfl (fun h48 => ?_) (fun h48 => ?_)
        ·
          have hi : i < ps.length := by omega
          obtain ⟨sb, so, rfl⟩ := hsf (by omega)
          have hqf := hfit _ (List.getElem_mem hi)
          refine T.skip ?_
          refine hK13 _ _ ?_
          refine T.seq fun K15 hK15 => ?_
          refine T.block ?_
          refine T.seq fun K16 hK16 => ?_
          refine T.region (l := [0, 1, 2, 3, 4, 5]) rfl ?_
          refine RN.qq rfl rfl rfl rfl (PRun.q (p_move rfl (by conv => lhs; whnf))) ?_
          refine RN.qq rfl rfl rfl rfl (PRun.q (p_move rfl (by conv => lhs; whnf))) ?_
          refine RN.qq rfl rfl rfl rfl (PRun.q (by first | exact (p_indexAddrN rfl Try.underlying45 ts_54 rfl rfl (by omega)) | exact (p_indexAddr rfl Try.underlying45 ts_54 rfl rfl (by omega)))) ?_
          refine RN.qq rfl rfl rfl rfl (QRun.ent ((Ent.pull_drop (is := [5]) rfl).trans (Ent.cons (hA.trans (view_cells (by omega))) (Ent.refl _))) (q_loadCA (us := ps[i].cells) (j := i * 39) rfl ag_54 ts_54 rfl (i := 0) rfl (by rw [pgs_length (fun x hx => (hfit x hx).ok.pay)]; omega) (pgs_get (fun x hx => (hfit x hx).ok.pay) hi))) ?_
          refine RN.E rfl rfl rfl rfl (e_alloc rfl ti_54) ?_
          rintro _ _ ⟨b11, rfl, rfl⟩
          refine RN.EN rfl rfl rfl (by first | exact (e_storeA rfl ts_54 rfl rfl (Pg.cells_length hqf.ok.pay) Pg.one (i := 0) rfl (by simp)) | exact (e_storeA rfl ts_54 rfl rfl (Pg.cells_length hqf.ok.pay) Pg.one (i := 1) rfl (by simp)) | exact (e_storeA rfl ts_54 rfl rfl (Pg.cells_length hqf.ok.pay) Pg.one (i := 2) rfl (by simp)) | exact (e_storeA rfl ts_54 rfl rfl (Pg.cells_length hqf.ok.pay) Pg.one (i := 3) rfl (by simp)) | exact (e_storeA rfl ts_54 rfl rfl (Pg.cells_length hqf.ok.pay) Pg.one (i := 4) rfl (by simp))) ?_
          rintro _ _ ⟨rfl, rfl⟩
          simp only [setN]
          rw [lay_pg rfl hqf.ok.pay]
          refine RN.nil ?_
          refine hK16 _ _ ?_
          refine T.cut (G := Unit) (fun ⟨⟩ => ps[i].valid ∧ ps[i].key = p.key) (fun ⟨⟩ => [(0, .slice (some ⟨sb, so, none⟩) ps.length cap), (3, ptr b3 0), (4, ptr b4 0), (6, ptr b6 0), (7, intV (pagesN p.lba.toNat)), (8, slc b41 0 (pagesN p.lba.toNat) (pagesN p.lba.toNat)), (9, slc b44 0 ((pagesN p.lba.toNat) * 32) ((pagesN p.lba.toNat) * 32)), (10, intV i), (11, ptr b11 0)]) (fun ⟨⟩ => [row b11 54 ps[i].cells, row b4 57 [.int .i64 0, u32V 0, u32V 0, .slice none 0 0], row b6 57 (strm p.kind p.epoch p.group (.slice none 0 0)), row b3 54 p.cells, row b41 4 (haveL pt), row b44 5 ((bufL pt).map u8V), A, Fr]) ?_ ?_
          ·
            refine T.seq fun K18 hK18 => ?_
            refine T.region (l := [0, 1, 2, 3, 4, 5, 6, 7, 8, 9, 10, 11, 12, 13, 14, 15, 16, 17]) rfl ?_
            refine RN.qq rfl rfl rfl rfl (q_loadA (vs := ps[i].cells) rfl ag_54 ts_54 rfl (i := 0) rfl (by rw [Pg.cells_length (hqf).ok.pay]; omega) (by rw [List.drop_zero, List.take_of_length_le (by rw [Pg.cells_length (hqf).ok.pay]; omega)])) ?_
            refine RN.qq rfl rfl rfl rfl (q_loadA (vs := p.cells) rfl ag_54 ts_54 rfl (i := 3) rfl (by rw [Pg.cells_length (hpf).ok.pay]; omega) (by rw [List.drop_zero, List.take_of_length_le (by rw [Pg.cells_length (hpf).ok.pay]; omega)])) ?_
            refine RN.C [] rfl rfl rfl rfl (c_call rfl rfl) (Ahead_spec ps[i] p) rfl ?_
            rintro _ _ ⟨rfl, rfl⟩
            refine RN.qq rfl rfl rfl rfl (PRun.q (p_move rfl (by conv => lhs; whnf))) ?_
            first | refine RN.split_dec 58 rfl (fun h58 => ?_) (fun h58 => ?_) | refine RN.split 58 rfl (fun h58 => ?_) (fun h58 => ?_)
            ·
              refine RN.O rfl rfl rfl rfl ?_
              refine RN.O rfl rfl rfl rfl ?_
              refine RN.O rfl rfl rfl rfl ?_
              refine RN.qq rfl rfl rfl rfl (PRun.q (p_pick_t rfl rfl (by conv => lhs; whnf))) ?_
              refine RN.qq rfl rfl rfl rfl (PRun.q (p_move rfl (by conv => lhs; whnf))) ?_
              refine RN.O rfl rfl rfl rfl ?_
              refine RN.O rfl rfl rfl rfl ?_
              refine RN.O rfl rfl rfl rfl ?_
              refine RN.O rfl rfl rfl rfl ?_
              refine RN.O rfl rfl rfl rfl ?_
              refine RN.O rfl rfl rfl rfl ?_
              refine RN.O rfl rfl rfl rfl ?_
              refine RN.O rfl rfl rfl rfl ?_
              refine RN.qq rfl rfl rfl rfl (PRun.q (p_pick_t rfl rfl (by conv => lhs; whnf))) ?_
              refine RN.nil ?_
              refine hK18 _ _ ?_
              refine T.cond_t rfl ?_
              refine T.exit ?_
              refine Post.seq_x ?_
              refine Post.block_hit ?_
              refine hK15 _ _ ?_
              refine T.region (l := [0, 1, 2]) rfl ?_
              refine RN.qq rfl rfl rfl rfl (PRun.q (p_move rfl (by conv => lhs; whnf))) ?_
              refine RN.qq rfl rfl rfl rfl (PRun.q (by first | exact (p_addN (b := 1) rfl rfl rfl (by omega)) | exact (p_add rfl rfl rfl (by omega)))) ?_
              refine RN.qq rfl rfl rfl rfl (PRun.q (p_assign rfl (by conv => lhs; whnf))) ?_
              refine RN.nil ?_
              refine ⟨(i + 1, pt), ⟨by omega, by rw [selF_no hi (fun h => ltK_irrefl p.key (by rw [h.2] at h58; exact h58))]; exact hw, hF, hpt⟩, (by show _ - (i + 1) < _ - i; omega), (LiveIs.cons rfl (LiveIs.cons rfl (LiveIs.cons rfl (LiveIs.cons rfl (LiveIs.cons rfl (LiveIs.cons rfl (LiveIs.cons rfl (LiveIs.cons rfl LiveIs.nil)))))))), ?_⟩
              exact Ent.pull_drop (is := [1, 1, 1, 1, 1, 1, 1]) rfl
            ·
              refine RN.qq rfl rfl rfl rfl (q_loadA (vs := p.cells) rfl ag_54 ts_54 rfl (i := 3) rfl (by rw [Pg.cells_length (hpf).ok.pay]; omega) (by rw [List.drop_zero, List.take_of_length_le (by rw [Pg.cells_length (hpf).ok.pay]; omega)])) ?_
              refine RN.qq rfl rfl rfl rfl (q_loadA (vs := ps[i].cells) rfl ag_54 ts_54 rfl (i := 0) rfl (by rw [Pg.cells_length (hqf).ok.pay]; omega) (by rw [List.drop_zero, List.take_of_length_le (by rw [Pg.cells_length (hqf).ok.pay]; omega)])) ?_
              refine RN.C [] rfl rfl rfl rfl (c_call rfl rfl) (Ahead_spec p ps[i]) rfl ?_
              rintro _ _ ⟨rfl, rfl⟩
              refine RN.qq rfl rfl rfl rfl (PRun.q (p_pick_f rfl rfl (by conv => lhs; whnf))) ?_
              refine RN.qq rfl rfl rfl rfl (PRun.q (p_move rfl (by conv => lhs; whnf))) ?_
              first | refine RN.split_dec 63 rfl (fun h63 => ?_) (fun h63 => ?_) | refine RN.split 63 rfl (fun h63 => ?_) (fun h63 => ?_)
              ·
                refine RN.O rfl rfl rfl rfl ?_
                refine RN.O rfl rfl rfl rfl ?_
                refine RN.O rfl rfl rfl rfl ?_
                refine RN.O rfl rfl rfl rfl ?_
                refine RN.O rfl rfl rfl rfl ?_
                refine RN.O rfl rfl rfl rfl ?_
                refine RN.O rfl rfl rfl rfl ?_
                refine RN.O rfl rfl rfl rfl ?_
                refine RN.qq rfl rfl rfl rfl (PRun.q (p_pick_t rfl rfl (by conv => lhs; whnf))) ?_
                refine RN.nil ?_
                refine hK18 _ _ ?_
                refine T.cond_t rfl ?_
                refine T.exit ?_
                refine Post.seq_x ?_
                refine Post.block_hit ?_
                refine hK15 _ _ ?_
                refine T.region (l := [0, 1, 2]) rfl ?_
                refine RN.qq rfl rfl rfl rfl (PRun.q (p_move rfl (by conv => lhs; whnf))) ?_
                refine RN.qq rfl rfl rfl rfl (PRun.q (by first | exact (p_addN (b := 1) rfl rfl rfl (by omega)) | exact (p_add rfl rfl rfl (by omega)))) ?_
                refine RN.qq rfl rfl rfl rfl (PRun.q (p_assign rfl (by conv => lhs; whnf))) ?_
                refine RN.nil ?_
                refine ⟨(i + 1, pt), ⟨by omega, by rw [selF_no hi (fun h => ltK_irrefl p.key (by rw [h.2] at h63; exact h63))]; exact hw, hF, hpt⟩, (by show _ - (i + 1) < _ - i; omega), (LiveIs.cons rfl (LiveIs.cons rfl (LiveIs.cons rfl (LiveIs.cons rfl (LiveIs.cons rfl (LiveIs.cons rfl (LiveIs.cons rfl (LiveIs.cons rfl LiveIs.nil)))))))), ?_⟩
                exact Ent.pull_drop (is := [1, 1, 1, 1, 1, 1, 1]) rfl
              ·
                refine RN.qq rfl rfl rfl rfl (PRun.q (p_fieldAddr rfl fa_54_0 rfl)) ?_
                refine RN.qq rfl rfl rfl rfl (q_load rfl sc_3 rfl (i := 0) rfl rfl) ?_
                refine RN.qq rfl rfl rfl rfl (PRun.q (p_neq rfl rfl rfl)) ?_
                refine RN.qq rfl rfl rfl rfl (PRun.q (p_move rfl (by conv => lhs; whnf))) ?_
                first | refine RN.split_dec 67 rfl (fun h67 => ?_) (fun h67 => ?_) | refine RN.split 67 rfl (fun h67 => ?_) (fun h67 => ?_)
                ·
                  refine RN.qq rfl rfl rfl rfl (PRun.q (p_fieldAddr rfl fa_54_0 rfl)) ?_
                  refine RN.qq rfl rfl rfl rfl (q_load rfl sc_3 rfl (i := 0) rfl rfl) ?_
                  refine RN.qq rfl rfl rfl rfl (PRun.q (p_neq rfl rfl rfl)) ?_
                  refine RN.qq rfl rfl rfl rfl (PRun.q (p_pick_t rfl rfl (by conv => lhs; whnf))) ?_
                  refine RN.qq rfl rfl rfl rfl (PRun.q (p_pick_f rfl rfl (by conv => lhs; whnf))) ?_
                  refine RN.nil ?_
                  refine hK18 _ _ ?_
                  first | refine T.cond_dec rfl (fun h72 => ?_) (fun h72 => ?_) | refine T.cond rfl (fun h72 => ?_) (fun h72 => ?_)
                  ·
                    refine T.exit ?_
                    refine Post.seq_x ?_
                    refine Post.block_hit ?_
                    refine hK15 _ _ ?_
                    refine T.region (l := [0, 1, 2]) rfl ?_
                    refine RN.qq rfl rfl rfl rfl (PRun.q (p_move rfl (by conv => lhs; whnf))) ?_
                    refine RN.qq rfl rfl rfl rfl (PRun.q (by first | exact (p_addN (b := 1) rfl rfl rfl (by omega)) | exact (p_add rfl rfl rfl (by omega)))) ?_
                    refine RN.qq rfl rfl rfl rfl (PRun.q (p_assign rfl (by conv => lhs; whnf))) ?_
                    refine RN.nil ?_
                    refine ⟨(i + 1, pt), ⟨by omega, by rw [selF_no hi (fun h => h.1.elim h67 h72)]; exact hw, hF, hpt⟩, (by show _ - (i + 1) < _ - i; omega), (LiveIs.cons rfl (LiveIs.cons rfl (LiveIs.cons rfl (LiveIs.cons rfl (LiveIs.cons rfl (LiveIs.cons rfl (LiveIs.cons rfl (LiveIs.cons rfl LiveIs.nil)))))))), ?_⟩
                    exact Ent.pull_drop (is := [1, 1, 1, 1, 1, 1, 1]) rfl
                  ·
                    refine T.skip ?_
                    refine ⟨(), ⟨.inr (Classical.not_not.1 h72), ltK_total h58 h63⟩, (LiveIs.cons rfl (LiveIs.cons rfl (LiveIs.cons rfl (LiveIs.cons rfl (LiveIs.cons rfl (LiveIs.cons rfl (LiveIs.cons rfl (LiveIs.cons rfl (LiveIs.cons rfl LiveIs.nil))))))))), Ent.refl _⟩
                ·
                  refine RN.O rfl rfl rfl rfl ?_
                  refine RN.O rfl rfl rfl rfl ?_
                  refine RN.O rfl rfl rfl rfl ?_
                  refine RN.qq rfl rfl rfl rfl (PRun.q (p_pick_f rfl rfl (by conv => lhs; whnf))) ?_
                  refine RN.qq rfl rfl rfl rfl (PRun.q (p_pick_f rfl rfl (by conv => lhs; whnf))) ?_
                  refine RN.nil ?_
                  refine hK18 _ _ ?_
                  refine T.cond_f rfl ?_
                  refine T.skip ?_
                  refine ⟨(), ⟨.inl (Classical.not_not.1 h67), ltK_total h58 h63⟩, (LiveIs.cons rfl (LiveIs.cons rfl (LiveIs.cons rfl (LiveIs.cons rfl (LiveIs.cons rfl (LiveIs.cons rfl (LiveIs.cons rfl (LiveIs.cons rfl (LiveIs.cons rfl LiveIs.nil))))))))), Ent.refl _⟩
          ·
            rintro ⟨⟩ e17 hsel
            refine T.seq fun K19 hK19 => ?_
            refine T.seq fun K20 hK20 => ?_
            refine T.region (l := [0, 1, 2, 3, 4, 5, 6, 7, 8, 9, 10, 11, 12, 13, 14, 15, 16, 17, 18]) rfl ?_
            refine RN.qq rfl rfl rfl rfl (PRun.q (p_fieldAddr rfl fa_54_1 rfl)) ?_
            refine RN.qq rfl rfl rfl rfl (q_load rfl sc_48 rfl (i := 0) rfl rfl) ?_
            refine RN.qq rfl rfl rfl rfl (PRun.q (p_fieldAddr rfl fa_54_1 rfl)) ?_
            refine RN.qq rfl rfl rfl rfl (q_load rfl sc_48 rfl (i := 3) rfl rfl) ?_
            refine RN.qq rfl rfl rfl rfl (PRun.q (p_neq rfl rfl rfl)) ?_
            refine RN.qq rfl rfl rfl rfl (PRun.q (p_move rfl (by conv => lhs; whnf))) ?_
            first | refine RN.split_dec 78 rfl (fun h78 => ?_) (fun h78 => ?_) | refine RN.split 78 rfl (fun h78 => ?_) (fun h78 => ?_)
            ·
              refine RN.O rfl rfl rfl rfl ?_
              refine RN.O rfl rfl rfl rfl ?_
              refine RN.O rfl rfl rfl rfl ?_
              refine RN.O rfl rfl rfl rfl ?_
              refine RN.O rfl rfl rfl rfl ?_
              refine RN.qq rfl rfl rfl rfl (PRun.q (p_pick_t rfl rfl (by conv => lhs; whnf))) ?_
              refine RN.qq rfl rfl rfl rfl (PRun.q (p_move rfl (by conv => lhs; whnf))) ?_
              refine RN.O rfl rfl rfl rfl ?_
              refine RN.O rfl rfl rfl rfl ?_
              refine RN.O rfl rfl rfl rfl ?_
              refine RN.O rfl rfl rfl rfl ?_
              refine RN.O rfl rfl rfl rfl ?_
              refine RN.qq rfl rfl rfl rfl (PRun.q (p_pick_t rfl rfl (by conv => lhs; whnf))) ?_
              refine RN.nil ?_
              refine hK20 _ _ ?_
              refine T.cond_t rfl ?_
              refine T.seq fun K21 hK21 => ?_
              refine T.region (l := [0, 1, 2]) rfl ?_
              refine RN.qq rfl rfl rfl rfl (q_loadA (vs := (strm p.kind p.epoch p.group (.slice none 0 0))) rfl ag_57 ts_57 rfl (i := 2) rfl (by show 0 + 4 ≤ 4; omega) rfl) ?_
              refine RN.EN rfl rfl rfl (e_storeA rfl ts_57 rfl rfl rfl (Sm.one rfl (k := ⟨p.kind, p.epoch, p.group⟩)) (i := 1) rfl (by simp)) ?_
              rintro _ _ ⟨rfl, rfl⟩
              try simp only [setN]
              rw [lay_four rfl rfl]
              refine RN.qq rfl rfl rfl rfl (PRun.q (p_assign rfl (by conv => lhs; whnf))) ?_
              refine RN.nil ?_
              refine hK21 _ _ ?_
              refine T.ret ?_
              refine Post.seq_r ?_
              refine Post.block_r ?_
              refine Post.seq_r ?_
              refine Post.seq_r ?_
              refine Post.block_r ?_
              refine Post.seq_r ?_
              refine bodyQ_ret [sep [], A] (RetRun.cell rfl (load_var (vs := (strm p.kind p.epoch p.group (.slice none 0 0))) ag_57 ts_57 (i := 1) rfl (by show 0 + 4 ≤ 4; omega) rfl) (RetRun.tmp RetRun.nil)) (RWholeQ_none hp hv (wholeW_bad hi h65 hsel hw (wstep_bad (.inl h78)))) ((Ent.pull_drop (is := [6, 6]) rfl).trans (Ent.unflat [] _))
            ·
              refine RN.qq rfl rfl rfl rfl (PRun.q (p_fieldAddr rfl fa_54_6 rfl)) ?_
              refine RN.qq rfl rfl rfl rfl (q_load rfl sc_48 rfl (i := 0) rfl rfl) ?_
              refine RN.qq rfl rfl rfl rfl (PRun.q (p_fieldAddr rfl fa_54_6 rfl)) ?_
              refine RN.qq rfl rfl rfl rfl (q_load rfl sc_48 rfl (i := 3) rfl rfl) ?_
              refine RN.qq rfl rfl rfl rfl (PRun.q (p_neq rfl rfl rfl)) ?_
              refine RN.qq rfl rfl rfl rfl (PRun.q (p_pick_f rfl rfl (by conv => lhs; whnf))) ?_
              refine RN.qq rfl rfl rfl rfl (PRun.q (p_move rfl (by conv => lhs; whnf))) ?_
              first | refine RN.split_dec 85 rfl (fun h85 => ?_) (fun h85 => ?_) | refine RN.split 85 rfl (fun h85 => ?_) (fun h85 => ?_)
              ·
                refine RN.O rfl rfl rfl rfl ?_
                refine RN.O rfl rfl rfl rfl ?_
                refine RN.O rfl rfl rfl rfl ?_
                refine RN.O rfl rfl rfl rfl ?_
                refine RN.O rfl rfl rfl rfl ?_
                refine RN.qq rfl rfl rfl rfl (PRun.q (p_pick_t rfl rfl (by conv => lhs; whnf))) ?_
                refine RN.nil ?_
                refine hK20 _ _ ?_
                refine T.cond_t rfl ?_
                refine T.seq fun K22 hK22 => ?_
                refine T.region (l := [0, 1, 2]) rfl ?_
                refine RN.qq rfl rfl rfl rfl (q_loadA (vs := (strm p.kind p.epoch p.group (.slice none 0 0))) rfl ag_57 ts_57 rfl (i := 2) rfl (by show 0 + 4 ≤ 4; omega) rfl) ?_
                refine RN.EN rfl rfl rfl (e_storeA rfl ts_57 rfl rfl rfl (Sm.one rfl (k := ⟨p.kind, p.epoch, p.group⟩)) (i := 1) rfl (by simp)) ?_
                rintro _ _ ⟨rfl, rfl⟩
                try simp only [setN]
                rw [lay_four rfl rfl]
                refine RN.qq rfl rfl rfl rfl (PRun.q (p_assign rfl (by conv => lhs; whnf))) ?_
                refine RN.nil ?_
                refine hK22 _ _ ?_
                refine T.ret ?_
                refine Post.seq_r ?_
                refine Post.block_r ?_
                refine Post.seq_r ?_
                refine Post.seq_r ?_
                refine Post.block_r ?_
                refine Post.seq_r ?_
                refine bodyQ_ret [sep [], A] (RetRun.cell rfl (load_var (vs := (strm p.kind p.epoch p.group (.slice none 0 0))) ag_57 ts_57 (i := 1) rfl (by show 0 + 4 ≤ 4; omega) rfl) (RetRun.tmp RetRun.nil)) (RWholeQ_none hp hv (wholeW_bad hi h65 hsel hw (wstep_bad (.inr (.inl (by rw [← ht]; exact h85)))))) ((Ent.pull_drop (is := [6, 6]) rfl).trans (Ent.unflat [] _))
              ·
                refine RN.qq rfl rfl rfl rfl (PRun.q (p_fieldAddr rfl fa_54_5 rfl)) ?_
                refine RN.qq rfl rfl rfl rfl (q_load rfl sc_48 rfl (i := 0) rfl rfl) ?_
                refine RN.qq rfl rfl rfl rfl (PRun.q (p_fieldAddr rfl fa_54_6 rfl)) ?_
                refine RN.qq rfl rfl rfl rfl (q_load rfl sc_48 rfl (i := 3) rfl rfl) ?_
                refine RN.qq rfl rfl rfl rfl (PRun.q (p_geq rfl rfl rfl)) ?_
                refine RN.qq rfl rfl rfl rfl (PRun.q (p_pick_f rfl rfl (by conv => lhs; whnf))) ?_
                refine RN.nil ?_
                refine hK20 _ _ ?_
                first | refine T.cond_dec rfl (fun h91 => ?_) (fun h91 => ?_) | refine T.cond rfl (fun h91 => ?_) (fun h91 => ?_)
                ·
                  refine T.seq fun K23 hK23 => ?_
                  refine T.region (l := [0, 1, 2]) rfl ?_
                  refine RN.qq rfl rfl rfl rfl (q_loadA (vs := (strm p.kind p.epoch p.group (.slice none 0 0))) rfl ag_57 ts_57 rfl (i := 2) rfl (by show 0 + 4 ≤ 4; omega) rfl) ?_
                  refine RN.EN rfl rfl rfl (e_storeA rfl ts_57 rfl rfl rfl (Sm.one rfl (k := ⟨p.kind, p.epoch, p.group⟩)) (i := 1) rfl (by simp)) ?_
                  rintro _ _ ⟨rfl, rfl⟩
                  try simp only [setN]
                  rw [lay_four rfl rfl]
                  refine RN.qq rfl rfl rfl rfl (PRun.q (p_assign rfl (by conv => lhs; whnf))) ?_
                  refine RN.nil ?_
                  refine hK23 _ _ ?_
                  refine T.ret ?_
                  refine Post.seq_r ?_
                  refine Post.block_r ?_
                  refine Post.seq_r ?_
                  refine Post.seq_r ?_
                  refine Post.block_r ?_
                  refine Post.seq_r ?_
                  refine bodyQ_ret [sep [], A] (RetRun.cell rfl (load_var (vs := (strm p.kind p.epoch p.group (.slice none 0 0))) ag_57 ts_57 (i := 1) rfl (by show 0 + 4 ≤ 4; omega) rfl) (RetRun.tmp RetRun.nil)) (RWholeQ_none hp hv (wholeW_bad hi h65 hsel hw (wstep_bad (.inr (.inr (by omega)))))) ((Ent.pull_drop (is := [6, 6]) rfl).trans (Ent.unflat [] _))
                ·
                  refine T.skip ?_
                  refine hK19 _ _ ?_
                  refine T.cut (G := Unit) (fun ⟨⟩ => ps[i].lba = p.lba ∧ ps[i].total = ((pagesN p.lba.toNat) : Int) ∧ ps[i].index < ((pagesN p.lba.toNat) : Int)) (fun ⟨⟩ => [(0, .slice (some ⟨sb, so, none⟩) ps.length cap), (3, ptr b3 0), (4, ptr b4 0), (6, ptr b6 0), (7, intV (pagesN p.lba.toNat)), (8, slc b41 0 (pagesN p.lba.toNat) (pagesN p.lba.toNat)), (9, slc b44 0 ((pagesN p.lba.toNat) * 32) ((pagesN p.lba.toNat) * 32)), (10, intV i), (11, ptr b11 0), (12, intV ps[i].index.toNat)]) (fun ⟨⟩ => [row b11 54 ps[i].cells, row b4 57 [.int .i64 0, u32V 0, u32V 0, .slice none 0 0], row b6 57 (strm p.kind p.epoch p.group (.slice none 0 0)), row b3 54 p.cells, row b41 4 (haveL pt), row b44 5 ((bufL pt).map u8V), A, Fr]) ?_ ?_
                  ·
                    refine T.region (l := [0, 1, 2, 3]) rfl ?_
                    refine RN.qq rfl rfl rfl rfl (PRun.q (p_fieldAddr rfl fa_54_5 rfl)) ?_
                    refine RN.qq rfl rfl rfl rfl (q_load rfl sc_48 rfl (i := 0) rfl rfl) ?_
                    refine RN.qq rfl rfl rfl rfl (PRun.q (p_conv_i64 rfl Try.underlying48 Try.underlying3 rfl (by have h := hqf.ok.index; unfold U32 at h; omega))) ?_
                    refine RN.qq rfl rfl rfl rfl (PRun.q (p_assign rfl (by conv => lhs; whnf))) ?_
                    refine RN.nil ?_
                    refine ⟨(), ⟨Classical.not_not.1 h78, by rw [Classical.not_not.1 h85]; exact ht, by omega⟩, (LiveIs.cons rfl (LiveIs.cons rfl (LiveIs.cons rfl (LiveIs.cons rfl (LiveIs.cons rfl (LiveIs.cons rfl (LiveIs.cons rfl (LiveIs.cons rfl (LiveIs.cons rfl (LiveIs.cons (congrArg (Value.int .i64) (Int.toNat_of_nonneg hqf.ok.index.1).symm) LiveIs.nil)))))))))), Ent.refl _⟩
                  ·
                    rintro ⟨⟩ e24 ⟨hql, hqt, hqi⟩
                    have hqi0 := hqf.ok.index.1
                    have hk : ps[i].index.toNat < pt.length := by omega
                    have hplen := hqf.ok.pay
                    refine T.seq fun K25 hK25 => ?_
                    refine T.seq fun K26 hK26 => ?_
                    refine T.region (l := [0]) rfl ?_
                    refine RN.qq rfl rfl rfl rfl (PRun.q (p_assign rfl (by conv => lhs; whnf))) ?_
                    refine RN.nil ?_
                    refine hK26 _ _ ?_
                    refine T.block ?_
                    refine T.loop (G := Nat) (fun j => j ≤ 32 ∧ Agree (pt[ps[i].index.toNat]?.getD none) ps[i].pay j) (fun j => [(0, .slice (some ⟨sb, so, none⟩) ps.length cap), (3, ptr b3 0), (4, ptr b4 0), (6, ptr b6 0), (7, intV (pagesN p.lba.toNat)), (8, slc b41 0 (pagesN p.lba.toNat) (pagesN p.lba.toNat)), (9, slc b44 0 ((pagesN p.lba.toNat) * 32) ((pagesN p.lba.toNat) * 32)), (10, intV i), (11, ptr b11 0), (12, intV ps[i].index.toNat), (13, intV j)]) (fun j => [row b11 54 ps[i].cells, row b4 57 [.int .i64 0, u32V 0, u32V 0, .slice none 0 0], row b6 57 (strm p.kind p.epoch p.group (.slice none 0 0)), row b3 54 p.cells, row b41 4 (haveL pt), row b44 5 ((bufJ pt ps[i].index.toNat ps[i].pay j).map u8V), A, Fr]) (fun j => 32 - j) 0 ⟨Nat.zero_le _, fun c hc => by simp⟩ (LiveIs.cons rfl (LiveIs.cons rfl (LiveIs.cons rfl (LiveIs.cons rfl (LiveIs.cons rfl (LiveIs.cons rfl (LiveIs.cons rfl (LiveIs.cons rfl (LiveIs.cons rfl (LiveIs.cons rfl (LiveIs.cons rfl LiveIs.nil))))))))))) (Ent.of_eq (by rw [bufJ_zero hk])) ?_
                    rintro j e27 ⟨hj32, hag⟩
                    refine T.seq fun K28 hK28 => ?_
                    refine T.seq fun K29 hK29 => ?_
                    refine T.region (l := [0, 1]) rfl ?_
                    refine RN.qq rfl rfl rfl rfl (PRun.q (p_move rfl (by conv => lhs; whnf))) ?_
                    refine RN.qq rfl rfl rfl rfl (PRun.q (p_lss rfl rfl rfl)) ?_
                    refine RN.nil ?_
                    refine hK29 _ _ ?_
                    first | refine T.cond_dec rfl (fun h97 => ?_) (fun h97 => ?_) | refine T.cond rfl (fun h97 => ?_) (fun h97 => ?_)
                    ·
                      have hj : j < 32 := by omega
                      have hjp : j < ps[i].pay.length := by omega
                      refine T.skip ?_
                      refine hK28 _ _ ?_
                      refine T.seq fun K30 hK30 => ?_
                      refine T.block ?_
                      refine T.cut (G := Unit) (fun ⟨⟩ => Agree (pt[ps[i].index.toNat]?.getD none) ps[i].pay (j + 1)) (fun ⟨⟩ => [(0, .slice (some ⟨sb, so, none⟩) ps.length cap), (3, ptr b3 0), (4, ptr b4 0), (6, ptr b6 0), (7, intV (pagesN p.lba.toNat)), (8, slc b41 0 (pagesN p.lba.toNat) (pagesN p.lba.toNat)), (9, slc b44 0 ((pagesN p.lba.toNat) * 32) ((pagesN p.lba.toNat) * 32)), (10, intV i), (11, ptr b11 0), (12, intV ps[i].index.toNat), (13, intV j)]) (fun ⟨⟩ => [row b11 54 ps[i].cells, row b4 57 [.int .i64 0, u32V 0, u32V 0, .slice none 0 0], row b6 57 (strm p.kind p.epoch p.group (.slice none 0 0)), row b3 54 p.cells, row b41 4 (haveL pt), row b44 5 ((bufJ pt ps[i].index.toNat ps[i].pay j).map u8V), A, Fr]) ?_ ?_
                      ·
                        refine T.seq fun K32 hK32 => ?_
                        refine T.regionD (z := 18) (Bs := [row b11 54 ps[i].cells, row b41 4 (haveL pt), row b44 5 ((bufJ pt ps[i].index.toNat ps[i].pay j).map u8V)]) (l := [(0, .pure), (1, .pure), (2, .pure), (3, .load), (4, .pure), (5, .pure), (6, .pure), (7, .pure), (8, .pure), (9, .pure), (10, .pure), (11, .load), (12, .pure), (13, .pure), (14, .pure), (15, .load), (16, .pure), (17, .pure)]) mixed (by kernel_rfl) (by first | exact Ent.refl _ | exact Ent.pull_drop (is := [0, 3, 3]) rfl) ?_
                        refine RD.pp rfl rfl rfl rfl (p_move rfl (by conv => lhs; whnf)) ?_
                        refine RD.pp rfl rfl rfl rfl (p_move rfl (by conv => lhs; whnf)) ?_
                        refine RD.pp rfl rfl rfl rfl (by first | exact (p_indexAddr1N rfl Try.underlying104 ts_4 rfl rfl (by omega)) | exact (p_indexAddr1 rfl Try.underlying104 ts_4 rfl rfl (by omega))) ?_
                        refine RD.qq rfl rfl rfl rfl (q_load (v := .bool pt[ps[i].index.toNat].isSome) rfl sc_4 rfl (i := 1) rfl (by rw [Nat.zero_add]; exact have_get hk)) (by first | exact Ent.refl _ | exact Ent.pull_drop (is := [0, 3, 3]) rfl) ?_
                        refine RD.pp rfl rfl rfl rfl (p_move rfl (by conv => lhs; whnf)) ?_
                        first | refine RD.split_dec 104 rfl (fun h104 => ?_) (fun h104 => ?_) | refine RD.split 104 rfl (fun h104 => ?_) (fun h104 => ?_)
                        ·
                          refine RD.pp rfl rfl rfl rfl (p_move rfl (by conv => lhs; whnf)) ?_
                          refine RD.pp rfl rfl rfl rfl (p_move rfl (by conv => lhs; whnf)) ?_
                          refine RD.pp rfl rfl rfl rfl (by first | exact (p_mulN (b := 32) rfl rfl rfl (by omega)) | exact (p_mul rfl rfl rfl (by omega))) ?_
                          refine RD.pp rfl rfl rfl rfl (p_move rfl (by conv => lhs; whnf)) ?_
                          refine RD.pp rfl rfl rfl rfl (by first | exact (p_addN rfl rfl rfl (by omega)) | exact (p_add rfl rfl rfl (by omega))) ?_
                          refine RD.pp rfl rfl rfl rfl (by first | exact (p_indexAddr1N rfl Try.underlying49 ts_5 rfl rfl (by omega)) | exact (p_indexAddr1 rfl Try.underlying49 ts_5 rfl rfl (by omega))) ?_
                          refine RD.qq rfl rfl rfl rfl (q_load rfl sc_5 rfl (i := 2) rfl (bufJ_at hF hk hplen hj)) (by first | exact Ent.refl _ | exact Ent.pull_drop (is := [0, 3, 3]) rfl) ?_
                          refine RD.pp rfl rfl rfl rfl (p_move rfl (by conv => lhs; whnf)) ?_
                          refine RD.pp rfl rfl rfl rfl (p_fieldAddr rfl fa_54_7 rfl) ?_
                          refine RD.pp rfl rfl rfl rfl (p_indexAddr1N_a rfl Try.underlying52 ts_5 rfl rfl (by omega)) ?_
                          refine RD.qq rfl rfl rfl rfl (q_load rfl sc_5 rfl (i := 0) rfl (pay_at hjp)) (by first | exact Ent.refl _ | exact Ent.pull_drop (is := [0, 3, 3]) rfl) ?_
                          refine RD.pp rfl rfl rfl rfl (p_neq rfl rfl rfl) ?_
                          refine RD.pp rfl rfl rfl rfl (p_pick_t rfl rfl (by conv => lhs; whnf)) ?_
                          refine RD.nil ?_
                          refine hK32 _ _ ?_
                          first | refine T.cond_dec rfl (fun h117 => ?_) (fun h117 => ?_) | refine T.cond rfl (fun h117 => ?_) (fun h117 => ?_)
                          ·
                            obtain ⟨c, hc⟩ := Option.isSome_iff_exists.1 h104
                            have hne := blk_ne hF hk hj hjp hc h117
                            refine T.seq fun K33 hK33 => ?_
                            refine T.region (l := [0, 1, 2]) rfl ?_
                            refine RN.qq rfl rfl rfl rfl (q_loadA (vs := (strm p.kind p.epoch p.group (.slice none 0 0))) rfl ag_57 ts_57 rfl (i := 2) rfl (by show 0 + 4 ≤ 4; omega) rfl) ?_
                            refine RN.EN rfl rfl rfl (e_storeA rfl ts_57 rfl rfl rfl (Sm.one rfl (k := ⟨p.kind, p.epoch, p.group⟩)) (i := 1) rfl (by simp)) ?_
                            rintro _ _ ⟨rfl, rfl⟩
                            try simp only [setN]
                            rw [lay_four rfl rfl]
                            refine RN.qq rfl rfl rfl rfl (PRun.q (p_assign rfl (by conv => lhs; whnf))) ?_
                            refine RN.nil ?_
                            refine hK33 _ _ ?_
                            refine T.ret ?_
                            refine Post.seq_r ?_
                            refine Post.block_r ?_
                            refine Post.seq_r ?_
                            refine Post.seq_r ?_
                            refine Post.block_r ?_
                            refine Post.seq_r ?_
                            refine Post.block_r ?_
                            refine Post.seq_r ?_
                            refine Post.seq_r ?_
                            refine Post.block_r ?_
                            refine Post.seq_r ?_
                            refine bodyQ_ret [sep [], A] (RetRun.cell rfl (load_var (vs := (strm p.kind p.epoch p.group (.slice none 0 0))) ag_57 ts_57 (i := 1) rfl (by show 0 + 4 ≤ 4; omega) rfl) (RetRun.tmp RetRun.nil)) (RWholeQ_none hp hv (wholeW_bad hi h65 hsel hw (wstep_dif (by rw [List.getElem?_eq_getElem hk, hc]) hne))) ((Ent.pull_drop (is := [6, 6]) rfl).trans (Ent.unflat [] _))
                          ·
                            refine T.skip ?_
                            refine ⟨(), (agree_eq hF hk hj hjp hag (Classical.not_not.1 h117)), (LiveIs.cons rfl (LiveIs.cons rfl (LiveIs.cons rfl (LiveIs.cons rfl (LiveIs.cons rfl (LiveIs.cons rfl (LiveIs.cons rfl (LiveIs.cons rfl (LiveIs.cons rfl (LiveIs.cons rfl (LiveIs.cons rfl LiveIs.nil))))))))))), Ent.refl _⟩
                        ·
                          refine RD.OP rfl rfl rfl rfl ?_
                          refine RD.OP rfl rfl rfl rfl ?_
                          refine RD.OP rfl rfl rfl rfl ?_
                          refine RD.OP rfl rfl rfl rfl ?_
                          refine RD.OP rfl rfl rfl rfl ?_
                          refine RD.OP rfl rfl rfl rfl ?_
                          refine RD.OL rfl rfl rfl rfl (by first | exact Ent.refl _ | exact Ent.pull_drop (is := [0, 3, 3]) rfl) ?_
                          refine RD.OP rfl rfl rfl rfl ?_
                          refine RD.OP rfl rfl rfl rfl ?_
                          refine RD.OP rfl rfl rfl rfl ?_
                          refine RD.OL rfl rfl rfl rfl (by first | exact Ent.refl _ | exact Ent.pull_drop (is := [0, 3, 3]) rfl) ?_
                          refine RD.OP rfl rfl rfl rfl ?_
                          refine RD.pp rfl rfl rfl rfl (p_pick_f rfl rfl (by conv => lhs; whnf)) ?_
                          refine RD.nil ?_
                          refine hK32 _ _ ?_
                          refine T.cond_f rfl ?_
                          refine T.skip ?_
                          refine ⟨(), (agree_none hk h104), (LiveIs.cons rfl (LiveIs.cons rfl (LiveIs.cons rfl (LiveIs.cons rfl (LiveIs.cons rfl (LiveIs.cons rfl (LiveIs.cons rfl (LiveIs.cons rfl (LiveIs.cons rfl (LiveIs.cons rfl (LiveIs.cons rfl LiveIs.nil))))))))))), Ent.refl _⟩
                      ·
                        rintro ⟨⟩ e31 hag2
                        refine T.region (l := [0, 1, 2, 3, 4, 5, 6, 7, 8, 9, 10]) rfl ?_
                        refine RN.qq rfl rfl rfl rfl (PRun.q (p_move rfl (by conv => lhs; whnf))) ?_
                        refine RN.qq rfl rfl rfl rfl (PRun.q (p_move rfl (by conv => lhs; whnf))) ?_
                        refine RN.qq rfl rfl rfl rfl (PRun.q (by first | exact (p_mulN (b := 32) rfl rfl rfl (by omega)) | exact (p_mul rfl rfl rfl (by omega)))) ?_
                        refine RN.qq rfl rfl rfl rfl (PRun.q (p_move rfl (by conv => lhs; whnf))) ?_
                        refine RN.qq rfl rfl rfl rfl (PRun.q (by first | exact (p_addN rfl rfl rfl (by omega)) | exact (p_add rfl rfl rfl (by omega)))) ?_
                        refine RN.qq rfl rfl rfl rfl (PRun.q (p_move rfl (by conv => lhs; whnf))) ?_
                        refine RN.qq rfl rfl rfl rfl (PRun.q (p_fieldAddr rfl fa_54_7 rfl)) ?_
                        refine RN.qq rfl rfl rfl rfl (PRun.q (p_indexAddr1N_a rfl Try.underlying52 ts_5 rfl rfl (by omega))) ?_
                        refine RN.qq rfl rfl rfl rfl (q_load rfl sc_5 rfl (i := 0) rfl (pay_at hjp)) ?_
                        refine RN.qq rfl rfl rfl rfl (PRun.q (by first | exact (p_indexAddr1N rfl Try.underlying49 ts_5 rfl rfl (by omega)) | exact (p_indexAddr1 rfl Try.underlying49 ts_5 rfl rfl (by omega)))) ?_
                        refine RN.EN rfl rfl rfl (e_store rfl ts_5 rfl (by conv => lhs; whnf) (by first | rfl | assumption) (i := 5) rfl (by rw [List.length_map, bufJ_length hF hk hplen (by omega)]; omega)) ?_
                        rintro _ _ ⟨rfl, rfl⟩
                        simp only [setN]
                        rw [bufJ_store hF hk hplen hj hjp]
                        refine RN.nil ?_
                        refine hK30 _ _ ?_
                        refine T.region (l := [0, 1, 2]) rfl ?_
                        refine RN.qq rfl rfl rfl rfl (PRun.q (p_move rfl (by conv => lhs; whnf))) ?_
                        refine RN.qq rfl rfl rfl rfl (PRun.q (by first | exact (p_addN (b := 1) rfl rfl rfl (by omega)) | exact (p_add rfl rfl rfl (by omega)))) ?_
                        refine RN.qq rfl rfl rfl rfl (PRun.q (p_assign rfl (by conv => lhs; whnf))) ?_
                        refine RN.nil ?_
                        refine ⟨j + 1, ⟨by omega, hag2⟩, (by omega), (LiveIs.cons rfl (LiveIs.cons rfl (LiveIs.cons rfl (LiveIs.cons rfl (LiveIs.cons rfl (LiveIs.cons rfl (LiveIs.cons rfl (LiveIs.cons rfl (LiveIs.cons rfl (LiveIs.cons rfl (LiveIs.cons rfl LiveIs.nil))))))))))), Ent.refl _⟩
                    ·
                      have hj : j = 32 := by omega
                      subst hj
                      refine T.exit ?_
                      refine Post.seq_x ?_
                      refine Post.seq_x ?_
                      refine Post.block_hit ?_
                      refine hK25 _ _ ?_
                      refine T.region (l := [0, 1, 2, 3]) rfl ?_
                      refine RN.qq rfl rfl rfl rfl (PRun.q (p_move rfl (by conv => lhs; whnf))) ?_
                      refine RN.qq rfl rfl rfl rfl (PRun.q (p_move rfl (by conv => lhs; whnf))) ?_
                      refine RN.qq rfl rfl rfl rfl (PRun.q (by first | exact (p_indexAddr1N rfl Try.underlying104 ts_4 rfl rfl (by omega)) | exact (p_indexAddr1 rfl Try.underlying104 ts_4 rfl rfl (by omega)))) ?_
                      refine RN.EN rfl rfl rfl (e_store rfl ts_4 rfl (by conv => lhs; whnf) (by first | rfl | assumption) (i := 4) rfl (by rw [show (haveL pt).length = pt.length from by simp [haveL]]; omega)) ?_
                      rintro _ _ ⟨rfl, rfl⟩
                      simp only [setN]
                      rw [have_store (c := ps[i].pay)]
                      refine RN.nil ?_
                      refine hK15 _ _ ?_
                      refine T.region (l := [0, 1, 2]) rfl ?_
                      refine RN.qq rfl rfl rfl rfl (PRun.q (p_move rfl (by conv => lhs; whnf))) ?_
                      refine RN.qq rfl rfl rfl rfl (PRun.q (by first | exact (p_addN (b := 1) rfl rfl rfl (by omega)) | exact (p_add rfl rfl rfl (by omega)))) ?_
                      refine RN.qq rfl rfl rfl rfl (PRun.q (p_assign rfl (by conv => lhs; whnf))) ?_
                      refine RN.nil ?_
                      refine ⟨(i + 1, pt.set ps[i].index.toNat (some ps[i].pay)), ⟨by omega, by rw [selF_yes hi hsel, wfold_push, hw]; exact wstep_some (by rintro (g | g | g); exact g hql; exact g hqt; omega) (agree_end hF hk hplen hag), full_set hF hplen, by rw [List.length_set]; exact hpt⟩, (by show _ - (i + 1) < _ - i; omega), (LiveIs.cons rfl (LiveIs.cons rfl (LiveIs.cons rfl (LiveIs.cons rfl (LiveIs.cons rfl (LiveIs.cons rfl (LiveIs.cons rfl (LiveIs.cons rfl LiveIs.nil)))))))), ?_⟩
                      refine (Ent.pull_drop (is := [1, 1, 1, 1, 1, 1, 1]) rfl).trans (Ent.at (i := 4) (B := row b44 5 ((bufL (pt.set ps[i].index.toNat (some ps[i].pay))).map u8V)) rfl (Ent.of_eq (by rw [bufJ_all hF hk hplen])))
        ·
          have hi : i = ps.length := by omega
          subst hi
          rw [List.take_length] at hw
          refine T.exit ?_
          refine Post.seq_x ?_
          refine Post.seq_x ?_
          refine Post.block_hit ?_
          refine hK10 _ _ ?_
          refine T.seq fun K34 hK34 => ?_
          refine T.seq fun K35 hK35 => ?_
          refine T.region (l := [0]) rfl ?_
          refine RN.qq rfl rfl rfl rfl (PRun.q (p_assign rfl (by conv => lhs; whnf))) ?_
          refine RN.nil ?_
          refine hK35 _ _ ?_
          refine T.block ?_
          refine T.loop (G := Nat) (fun m => m ≤ (pagesN p.lba.toNat) ∧ ∀ x (hx : x < pt.length), x < m → pt[x].isSome = true) (fun m => [(0, .slice q ps.length cap), (3, ptr b3 0), (4, ptr b4 0), (6, ptr b6 0), (7, intV (pagesN p.lba.toNat)), (8, slc b41 0 (pagesN p.lba.toNat) (pagesN p.lba.toNat)), (9, slc b44 0 ((pagesN p.lba.toNat) * 32) ((pagesN p.lba.toNat) * 32)), (14, intV m)]) (fun m => [row b4 57 [.int .i64 0, u32V 0, u32V 0, .slice none 0 0], row b6 57 (strm p.kind p.epoch p.group (.slice none 0 0)), row b3 54 p.cells, row b41 4 (haveL pt), row b44 5 ((bufL pt).map u8V), A, Fr]) (fun m => (pagesN p.lba.toNat) - m) 0 ⟨Nat.zero_le _, fun x _ h => absurd h (Nat.not_lt_zero _)⟩ (LiveIs.cons rfl (LiveIs.cons rfl (LiveIs.cons rfl (LiveIs.cons rfl (LiveIs.cons rfl (LiveIs.cons rfl (LiveIs.cons rfl (LiveIs.cons rfl LiveIs.nil)))))))) (Ent.refl _) ?_
          rintro m e36 ⟨hmT, hso⟩
          refine T.seq fun K37 hK37 => ?_
          refine T.seq fun K38 hK38 => ?_
          refine T.region (l := [0, 1, 2]) rfl ?_
          refine RN.qq rfl rfl rfl rfl (PRun.q (p_move rfl (by conv => lhs; whnf))) ?_
          refine RN.qq rfl rfl rfl rfl (PRun.q (p_move rfl (by conv => lhs; whnf))) ?_
          refine RN.qq rfl rfl rfl rfl (PRun.q (p_lss rfl rfl rfl)) ?_
          refine RN.nil ?_
          refine hK38 _ _ ?_
          first | refine T.cond_dec rfl (fun h134 => ?_) (fun h134 => ?_) | refine T.cond rfl (fun h134 => ?_) (fun h134 => ?_)
          ·
            have hm : m < (pagesN p.lba.toNat) := by omega
            have hmp : m < pt.length := by omega
            refine T.skip ?_
            refine hK37 _ _ ?_
            refine T.seq fun K39 hK39 => ?_
            refine T.block ?_
            refine T.seq fun K40 hK40 => ?_
            refine T.region (l := [0, 1, 2, 3, 4]) rfl ?_
            refine RN.qq rfl rfl rfl rfl (PRun.q (p_move rfl (by conv => lhs; whnf))) ?_
            refine RN.qq rfl rfl rfl rfl (PRun.q (p_move rfl (by conv => lhs; whnf))) ?_
            refine RN.qq rfl rfl rfl rfl (PRun.q (by first | exact (p_indexAddr1N rfl Try.underlying104 ts_4 rfl rfl (by omega)) | exact (p_indexAddr1 rfl Try.underlying104 ts_4 rfl rfl (by omega)))) ?_
            refine RN.qq rfl rfl rfl rfl (q_load (v := .bool pt[m].isSome) rfl sc_4 rfl (i := 3) rfl (by rw [Nat.zero_add]; exact have_get hmp)) ?_
            refine RN.qq rfl rfl rfl rfl (PRun.q (by first | exact (p_not_dec rfl rfl) | exact (p_not rfl rfl))) ?_
            refine RN.nil ?_
            refine hK40 _ _ ?_
            first | refine T.cond_dec rfl (fun h141 => ?_) (fun h141 => ?_) | refine T.cond rfl (fun h141 => ?_) (fun h141 => ?_)
            ·
              have hno : pt[m] = none := by cases hh : pt[m] with
                | none => rfl
                | some c => rw [hh] at h141; cases h141
              refine T.seq fun K41 hK41 => ?_
              refine T.region (l := [0, 1, 2]) rfl ?_
              refine RN.qq rfl rfl rfl rfl (q_loadA (vs := (strm p.kind p.epoch p.group (.slice none 0 0))) rfl ag_57 ts_57 rfl (i := 1) rfl (by show 0 + 4 ≤ 4; omega) rfl) ?_
              refine RN.EN rfl rfl rfl (e_storeA rfl ts_57 rfl rfl rfl (Sm.one rfl (k := ⟨p.kind, p.epoch, p.group⟩)) (i := 0) rfl (by simp)) ?_
              rintro _ _ ⟨rfl, rfl⟩
              try simp only [setN]
              rw [lay_four rfl rfl]
              refine RN.qq rfl rfl rfl rfl (PRun.q (p_assign rfl (by conv => lhs; whnf))) ?_
              refine RN.nil ?_
              refine hK41 _ _ ?_
              refine T.ret ?_
              refine Post.block_r ?_
              refine Post.seq_r ?_
              refine Post.seq_r ?_
              refine Post.block_r ?_
              refine Post.seq_r ?_
              refine bodyQ_ret [sep [], A] (RetRun.cell rfl (load_var (vs := (strm p.kind p.epoch p.group (.slice none 0 0))) ag_57 ts_57 (i := 0) rfl (by show 0 + 4 ≤ 4; omega) rfl) (RetRun.tmp RetRun.nil)) (RWholeQ_none hp hv ((wholeW_end h65 hw).trans (wholeT_dead (allP_dead hmp hno)))) ((Ent.pull_drop (is := [5, 5]) rfl).trans (Ent.unflat [] _))
            ·
              refine T.skip ?_
              refine hK39 _ _ ?_
              refine T.region (l := [0, 1, 2]) rfl ?_
              refine RN.qq rfl rfl rfl rfl (PRun.q (p_move rfl (by conv => lhs; whnf))) ?_
              refine RN.qq rfl rfl rfl rfl (PRun.q (by first | exact (p_addN (b := 1) rfl rfl rfl (by omega)) | exact (p_add rfl rfl rfl (by omega)))) ?_
              refine RN.qq rfl rfl rfl rfl (PRun.q (p_assign rfl (by conv => lhs; whnf))) ?_
              refine RN.nil ?_
              refine ⟨m + 1, ⟨by omega, fun x hx hxm => by by_cases he : x = m; subst he; exact (by simpa using h141); exact hso x hx (by omega)⟩, (by omega), (LiveIs.cons rfl (LiveIs.cons rfl (LiveIs.cons rfl (LiveIs.cons rfl (LiveIs.cons rfl (LiveIs.cons rfl (LiveIs.cons rfl (LiveIs.cons rfl LiveIs.nil)))))))), Ent.refl _⟩
          ·
            have hm : m = (pagesN p.lba.toNat) := by omega
            subst hm
            have hall := allP_buf (fun x hx => hso x hx (by omega))
            have hbl := buf_length hF
            refine T.exit ?_
            refine Post.seq_x ?_
            refine Post.seq_x ?_
            refine Post.block_hit ?_
            refine hK34 _ _ ?_
            refine T.seq fun K42 hK42 => ?_
            refine T.seq fun K43 hK43 => ?_
            refine T.region (l := [0, 1, 2, 3]) rfl ?_
            refine RN.qq rfl rfl rfl rfl (PRun.q (p_fieldAddr rfl fa_54_1 rfl)) ?_
            refine RN.qq rfl rfl rfl rfl (by first | exact (q_load rfl sc_48 rfl (i := 0) rfl rfl) | exact (q_load rfl sc_48 rfl (i := 1) rfl rfl) | exact (q_load rfl sc_48 rfl (i := 2) rfl rfl) | exact (q_load rfl sc_48 rfl (i := 3) rfl rfl) | exact (q_load rfl sc_48 rfl (i := 4) rfl rfl)) ?_
            refine RN.qq rfl rfl rfl rfl (PRun.q (p_conv_i64 rfl Try.underlying48 Try.underlying3 rfl (by omega))) ?_
            refine RN.qq rfl rfl rfl rfl (PRun.q (p_assign rfl (by conv => lhs; whnf))) ?_
            refine RN.nil ?_
            refine hK43 _ _ ?_
            refine T.block ?_
            refine T.loop (G := Nat) (fun m => p.lba.toNat + m ≤ (pagesN p.lba.toNat) * 32 ∧ ∀ x ∈ ((bufL pt).drop p.lba.toNat).take m, x = 0) (fun m => [(0, .slice q ps.length cap), (3, ptr b3 0), (4, ptr b4 0), (6, ptr b6 0), (7, intV (pagesN p.lba.toNat)), (8, slc b41 0 (pagesN p.lba.toNat) (pagesN p.lba.toNat)), (9, slc b44 0 ((pagesN p.lba.toNat) * 32) ((pagesN p.lba.toNat) * 32)), (15, intV (p.lba.toNat + m))]) (fun m => [row b4 57 [.int .i64 0, u32V 0, u32V 0, .slice none 0 0], row b6 57 (strm p.kind p.epoch p.group (.slice none 0 0)), row b3 54 p.cells, row b41 4 (haveL pt), row b44 5 ((bufL pt).map u8V), A, Fr]) (fun m => (pagesN p.lba.toNat) * 32 - p.lba.toNat - m) 0 ⟨by omega, fun x hx => by simp at hx⟩ (LiveIs.cons rfl (LiveIs.cons rfl (LiveIs.cons rfl (LiveIs.cons rfl (LiveIs.cons rfl (LiveIs.cons rfl (LiveIs.cons rfl (LiveIs.cons (congrArg (Value.int .i64) (Int.toNat_of_nonneg hl0).symm) LiveIs.nil)))))))) (Ent.refl _) ?_
            rintro m e44 ⟨hmL, hzz⟩
            refine T.seq fun K45 hK45 => ?_
            refine T.seq fun K46 hK46 => ?_
            refine T.region (l := [0, 1, 2, 3]) rfl ?_
            refine RN.qq rfl rfl rfl rfl (PRun.q (p_move rfl (by conv => lhs; whnf))) ?_
            refine RN.qq rfl rfl rfl rfl (PRun.q (p_move rfl (by conv => lhs; whnf))) ?_
            refine RN.qq rfl rfl rfl rfl (PRun.q (p_len rfl Try.underlying49 rfl)) ?_
            refine RN.qq rfl rfl rfl rfl (PRun.q (p_lss rfl rfl rfl)) ?_
            refine RN.nil ?_
            refine hK46 _ _ ?_
            first | refine T.cond_dec rfl (fun h149 => ?_) (fun h149 => ?_) | refine T.cond rfl (fun h149 => ?_) (fun h149 => ?_)
            ·
              have hjl : p.lba.toNat + m < (bufL pt).length := by omega
              refine T.skip ?_
              refine hK45 _ _ ?_
              refine T.seq fun K47 hK47 => ?_
              refine T.block ?_
              refine T.seq fun K48 hK48 => ?_
              refine T.region (l := [0, 1, 2, 3, 4]) rfl ?_
              refine RN.qq rfl rfl rfl rfl (PRun.q (p_move rfl (by conv => lhs; whnf))) ?_
              refine RN.qq rfl rfl rfl rfl (PRun.q (p_move rfl (by conv => lhs; whnf))) ?_
              refine RN.qq rfl rfl rfl rfl (PRun.q (by first | exact (p_indexAddr1N rfl Try.underlying49 ts_5 rfl rfl (by omega)) | exact (p_indexAddr1 rfl Try.underlying49 ts_5 rfl rfl (by omega)))) ?_
              refine RN.qq rfl rfl rfl rfl (q_load (v := u8V ((bufL pt)[p.lba.toNat + m])) rfl sc_5 rfl (i := 4) rfl (by rw [Nat.zero_add, List.getElem?_map, List.getElem?_eq_getElem hjl]; rfl)) ?_
              refine RN.qq rfl rfl rfl rfl (PRun.q (p_neq rfl rfl rfl)) ?_
              refine RN.nil ?_
              refine hK48 _ _ ?_
              first | refine T.cond_dec rfl (fun h156 => ?_) (fun h156 => ?_) | refine T.cond rfl (fun h156 => ?_) (fun h156 => ?_)
              ·
                have hnz : ¬ (bufL pt)[p.lba.toNat + m] = 0 := fun hz => h156 (by rw [hz]; rfl)
                refine T.seq fun K49 hK49 => ?_
                refine T.region (l := [0, 1, 2]) rfl ?_
                refine RN.qq rfl rfl rfl rfl (q_loadA (vs := (strm p.kind p.epoch p.group (.slice none 0 0))) rfl ag_57 ts_57 rfl (i := 1) rfl (by show 0 + 4 ≤ 4; omega) rfl) ?_
                refine RN.EN rfl rfl rfl (e_storeA rfl ts_57 rfl rfl rfl (Sm.one rfl (k := ⟨p.kind, p.epoch, p.group⟩)) (i := 0) rfl (by simp)) ?_
                rintro _ _ ⟨rfl, rfl⟩
                try simp only [setN]
                rw [lay_four rfl rfl]
                refine RN.qq rfl rfl rfl rfl (PRun.q (p_assign rfl (by conv => lhs; whnf))) ?_
                refine RN.nil ?_
                refine hK49 _ _ ?_
                refine T.ret ?_
                refine Post.block_r ?_
                refine Post.seq_r ?_
                refine Post.seq_r ?_
                refine Post.block_r ?_
                refine Post.seq_r ?_
                refine bodyQ_ret [sep [], A] (RetRun.cell rfl (load_var (vs := (strm p.kind p.epoch p.group (.slice none 0 0))) ag_57 ts_57 (i := 0) rfl (by show 0 + 4 ≤ 4; omega) rfl) (RetRun.tmp RetRun.nil)) (RWholeQ_none hp hv ((wholeW_end h65 hw).trans (wholeT_bad hall (fun hh => hnz (hh _ (mem_drop_at hjl)))))) ((Ent.pull_drop (is := [5, 5]) rfl).trans (Ent.unflat [] _))
              ·
                have hz : (bufL pt)[p.lba.toNat + m] = 0 := UInt8.toNat_inj.1 (by have h97 := Classical.not_not.1 h156; exact Int.ofNat.inj h97)
                refine T.skip ?_
                refine hK47 _ _ ?_
                refine T.region (l := [0, 1, 2]) rfl ?_
                refine RN.qq rfl rfl rfl rfl (PRun.q (p_move rfl (by conv => lhs; whnf))) ?_
                refine RN.qq rfl rfl rfl rfl (PRun.q (by first | exact (p_addN (b := 1) rfl rfl rfl (by omega)) | exact (p_add rfl rfl rfl (by omega)))) ?_
                refine RN.qq rfl rfl rfl rfl (PRun.q (p_assign rfl (by conv => lhs; whnf))) ?_
                refine RN.nil ?_
                refine ⟨m + 1, ⟨by omega, zero_ext hjl hzz hz⟩, (by omega), (LiveIs.cons rfl (LiveIs.cons rfl (LiveIs.cons rfl (LiveIs.cons rfl (LiveIs.cons rfl (LiveIs.cons rfl (LiveIs.cons rfl (LiveIs.cons rfl LiveIs.nil)))))))), Ent.refl _⟩
            ·
              have hm : p.lba.toNat + m = (pagesN p.lba.toNat) * 32 := by omega
              have hz0 : ∀ x ∈ (bufL pt).drop p.lba.toNat, x = 0 := fun x hx => hzz x (by rw [List.take_of_length_le (by rw [List.length_drop]; omega)]; exact hx)
              refine T.exit ?_
              refine Post.seq_x ?_
              refine Post.seq_x ?_
              refine Post.block_hit ?_
              refine hK42 _ _ ?_
              refine T.seq fun K50 hK50 => ?_
              refine T.region (l := [0, 1, 2, 3, 4, 5]) rfl ?_
              refine RN.qq rfl rfl rfl rfl (PRun.q (p_move rfl (by conv => lhs; whnf))) ?_
              refine RN.qq rfl rfl rfl rfl (PRun.q (p_fieldAddr rfl fa_54_1 rfl)) ?_
              refine RN.qq rfl rfl rfl rfl (by first | exact (q_load rfl sc_48 rfl (i := 0) rfl rfl) | exact (q_load rfl sc_48 rfl (i := 1) rfl rfl) | exact (q_load rfl sc_48 rfl (i := 2) rfl rfl) | exact (q_load rfl sc_48 rfl (i := 3) rfl rfl) | exact (q_load rfl sc_48 rfl (i := 4) rfl rfl)) ?_
              refine RN.qq rfl rfl rfl rfl (PRun.q (p_slice_hi (h := p.lba.toNat) rfl Try.underlying49 ts_5 rfl (congrArg (Value.int .u32) (Int.toNat_of_nonneg hl0).symm) (by omega))) ?_
              refine RN.qq rfl rfl rfl rfl (PRun.q (p_fieldAddr rfl fa_57_3 rfl)) ?_
              refine RN.EN rfl rfl rfl (e_store rfl ts_49 rfl (by conv => lhs; whnf) rfl (i := 1) rfl (by show 0 + 3 < 4; omega)) ?_
              rintro _ _ ⟨rfl, rfl⟩
              simp only [setN]
              rw [show (strm p.kind p.epoch p.group (.slice none 0 0)).set (0 + 3) (Value.slice (some { block := b44, off := 0 }) p.lba.toNat ((pagesN p.lba.toNat) * 32)) = (strm p.kind p.epoch p.group (slc b44 0 p.lba.toNat ((pagesN p.lba.toNat) * 32))) from rfl]
              refine RN.nil ?_
              refine hK50 _ _ ?_
              refine T.seq fun K51 hK51 => ?_
              refine T.region (l := [0, 1, 2]) rfl ?_
              refine RN.qq rfl rfl rfl rfl (q_loadA (vs := (strm p.kind p.epoch p.group (slc b44 0 p.lba.toNat ((pagesN p.lba.toNat) * 32)))) rfl ag_57 ts_57 rfl (i := 1) rfl (by show 0 + 4 ≤ 4; omega) rfl) ?_
              refine RN.EN rfl rfl rfl (e_storeA (vs := (strm p.kind p.epoch p.group (slc b44 0 p.lba.toNat ((pagesN p.lba.toNat) * 32)))) rfl ts_57 rfl rfl rfl (Sm.one rfl (k := ⟨p.kind, p.epoch, p.group⟩)) (i := 0) rfl (by show 0 + 4 ≤ 4; omega)) ?_
              rintro _ _ ⟨rfl, rfl⟩
              simp only [setN]
              rw [lay_four rfl rfl]
              refine RN.qq rfl rfl rfl rfl (PRun.q (p_assign rfl (by conv => lhs; whnf))) ?_
              refine RN.nil ?_
              refine hK51 _ _ ?_
              refine T.ret ?_
              have hfin : wholeW p.lba (selF p ps) = some ((bufL pt).take p.lba.toNat) := (wholeW_end h65 hw).trans (wholeT_some hall hz0)
              have hLl : ((bufL pt).take p.lba.toNat).length = p.lba.toNat := by rw [List.length_take]; omega
              refine bodyQ_ret [vec 5 1 (slc b44 0 p.lba.toNat ((pagesN p.lba.toNat) * 32)) ((bufL pt).take p.lba.toNat).length (((bufL pt).take p.lba.toNat).map u8V), A] (RetRun.cell rfl (load_var (vs := (strm p.kind p.epoch p.group (slc b44 0 p.lba.toNat ((pagesN p.lba.toNat) * 32)))) ag_57 ts_57 (i := 0) rfl (by show 0 + 4 ≤ 4; omega) rfl) (RetRun.tmp RetRun.nil)) (RWholeQ_some hp hv hfin) ?_
              rw [hLl]
              refine (Ent.pull_drop (is := [4, 4, 4]) rfl).trans (Ent.cons ?_ (Ent.refl _))
              have hsp : (bufL pt).map u8V = ((bufL pt).take p.lba.toNat).map u8V ++ ((bufL pt).drop p.lba.toNat).map u8V := by rw [← List.map_append, List.take_append_drop]
              rw [hsp]
              exact vec_of_row (by simp; omega) (by omega) (by omega) (by simp; omega)

end Go.Proofs.Yticfabhcfdmbjaa
namespace Go.Proofs.Yticfabhcfdmbjaa
open Go Go.Sl Go.Proofs
set_option maxRecDepth 20000
open Go.Mo
theorem RJoin_spec (A : Assn) (lv : Value) (ps : List Pg) (hA : Ent A (view 39 lv ps.length (pgs ps))) (hfit : ∀ q ∈ ps, q.fit) (hlen : ps.length ≤ 65536) : Ctr Try.prog 32 [lv] [A] (RJoinQ A ps) := by
  refine Ctr.of_body Try.func32 rfl (by kernel_rfl) Try.ntmps32 rfl rfl (fun Fr => ?_)
  refine T.peek (A := view 39 lv ps.length (pgs ps)) ((Ent.head _ _).trans hA) view_form ?_
  rintro ⟨q, cap, rfl, hcap, hcm, hsf⟩
  refine T.seq fun K1 hK1 => ?_
  refine T.region (l := [0]) rfl ?_
  refine RN.qq rfl rfl rfl rfl (PRun.q (p_assign rfl (by conv => lhs; whnf))) ?_
  refine RN.nil ?_
  refine hK1 _ _ ?_
  refine T.seq fun K2 hK2 => ?_
  refine T.region (l := [0]) rfl ?_
  refine RN.qq rfl rfl rfl rfl (PRun.q (p_assign rfl (by conv => lhs; whnf))) ?_
  refine RN.nil ?_
  refine hK2 _ _ ?_
  refine T.seq fun K3 hK3 => ?_
  refine T.seq fun K4 hK4 => ?_
  refine T.ent (Ent.vec_nil' (el := 54) (sz := 39)) ?_
  refine T.region (l := [0]) rfl ?_
  refine RN.qq rfl rfl rfl rfl (PRun.q (p_assign rfl (by conv => lhs; whnf))) ?_
  refine RN.nil ?_
  refine hK4 _ _ ?_
  refine T.block ?_
  refine T.loop (G := Nat × List Pg × Value) (fun ⟨i, fs, v3⟩ => i ≤ ps.length ∧ fs.length ≤ i ∧ Firsts (ps.take i) fs ∧ v3.oneCell' = true) (fun ⟨i, fs, v3⟩ => [(0, .slice q ps.length cap), (3, v3), (4, intV i)]) (fun ⟨i, fs, v3⟩ => [vec 54 39 v3 fs.length (pgs fs), A, Fr]) (fun ⟨i, fs, v3⟩ => ps.length - i) (0, [], .slice none 0 0) ⟨Nat.zero_le _, Nat.le_refl _, firsts_nil, rfl⟩ (LiveIs.cons rfl (LiveIs.cons rfl (LiveIs.cons rfl LiveIs.nil))) (Ent.refl _) ?_
  rintro ⟨i, fs, v3⟩ e5 ⟨hil, hfl, hF, hv3⟩
  dsimp only
  refine T.seq fun K6 hK6 => ?_
  refine T.seq fun K7 hK7 => ?_
  refine T.region (l := [0, 1, 2, 3]) rfl ?_
  refine RN.qq rfl rfl rfl rfl (PRun.q (p_move rfl (by conv => lhs; whnf))) ?_
  refine RN.qq rfl rfl rfl rfl (PRun.q (p_move rfl (by conv => lhs; whnf))) ?_
  refine RN.qq rfl rfl rfl rfl (PRun.q (p_len rfl Try.underlying45 rfl)) ?_
  refine RN.qq rfl rfl rfl rfl (PRun.q (p_lss rfl rfl rfl)) ?_
  refine RN.nil ?_
  refine hK7 _ _ ?_
  first | refine T.cond_dec rfl (fun h13 => ?_) (fun h13 => ?_) | refine T.cond rfl (fun h13 => ?_) (fun h13 => ?_)
  ·
    have hi : i < ps.length := by omega
    obtain ⟨sb, so, rfl⟩ := hsf (by omega)
    have hqf := hfit _ (List.getElem_mem hi)
    refine T.peek (A := view 39 v3 fs.length (pgs fs)) ((Ent.head _ _).trans view_of_vec) view_form ?_
    rintro ⟨q3, cap3, rfl, h3c, h3m, h3f⟩
    refine T.skip ?_
    refine hK6 _ _ ?_
    refine T.seq fun K8 hK8 => ?_
    refine T.block ?_
    refine T.cut (G := Unit) (fun ⟨⟩ => ps[i].valid) (fun ⟨⟩ => [(0, .slice (some ⟨sb, so, none⟩) ps.length cap), (3, .slice q3 fs.length cap3), (4, intV i)]) (fun ⟨⟩ => [vec 54 39 (.slice q3 fs.length cap3) fs.length (pgs fs), A, Fr]) ?_ ?_
    ·
      refine T.seq fun K10 hK10 => ?_
      refine T.region (l := [0, 1, 2, 3, 4, 5, 6, 7, 8, 9, 10, 11, 12, 13]) rfl ?_
      refine RN.qq rfl rfl rfl rfl (PRun.q (p_move rfl (by conv => lhs; whnf))) ?_
      refine RN.qq rfl rfl rfl rfl (PRun.q (p_move rfl (by conv => lhs; whnf))) ?_
      refine RN.qq rfl rfl rfl rfl (PRun.q (by first | exact (p_indexAddrN rfl Try.underlying45 ts_54 rfl rfl (by omega)) | exact (p_indexAddr rfl Try.underlying45 ts_54 rfl rfl (by omega)))) ?_
      refine RN.qq rfl rfl rfl rfl (PRun.q (p_fieldAddr rfl fa_54_0 rfl)) ?_
      refine RN.qq rfl rfl rfl rfl (QRun.ent ((Ent.pull_drop (is := [1]) rfl).trans (Ent.cons (hA.trans (view_cells (by omega))) (Ent.refl _))) (q_load1C (k := i * 39 + 0) (v := .int .i64 ps[i].kind) rfl sc_3 rfl (i := 0) rfl (pgs_at hfit hi (by omega) rfl))) ?_
      refine RN.qq rfl rfl rfl rfl (PRun.q (p_neq rfl rfl rfl)) ?_
      refine RN.qq rfl rfl rfl rfl (PRun.q (p_move rfl (by conv => lhs; whnf))) ?_
      first | refine RN.split_dec 22 rfl (fun h22 => ?_) (fun h22 => ?_) | refine RN.split 22 rfl (fun h22 => ?_) (fun h22 => ?_)
      ·
        refine RN.qq rfl rfl rfl rfl (PRun.q (p_move rfl (by conv => lhs; whnf))) ?_
        refine RN.qq rfl rfl rfl rfl (PRun.q (p_move rfl (by conv => lhs; whnf))) ?_
        refine RN.qq rfl rfl rfl rfl (PRun.q (by first | exact (p_indexAddrN rfl Try.underlying45 ts_54 rfl rfl (by omega)) | exact (p_indexAddr rfl Try.underlying45 ts_54 rfl rfl (by omega)))) ?_
        refine RN.qq rfl rfl rfl rfl (PRun.q (p_fieldAddr rfl fa_54_0 rfl)) ?_
        refine RN.qq rfl rfl rfl rfl (QRun.ent ((Ent.pull_drop (is := [1]) rfl).trans (Ent.cons (hA.trans (view_cells (by omega))) (Ent.refl _))) (q_load1C (k := i * 39 + 0) (v := .int .i64 ps[i].kind) rfl sc_3 rfl (i := 0) rfl (pgs_at hfit hi (by omega) rfl))) ?_
        refine RN.qq rfl rfl rfl rfl (PRun.q (p_neq rfl rfl rfl)) ?_
        refine RN.qq rfl rfl rfl rfl (PRun.q (p_pick_t rfl rfl (by conv => lhs; whnf))) ?_
        refine RN.nil ?_
        refine hK10 _ _ ?_
        first | refine T.cond_dec rfl (fun h29 => ?_) (fun h29 => ?_) | refine T.cond rfl (fun h29 => ?_) (fun h29 => ?_)
        ·
          refine T.exit ?_
          refine Post.seq_x ?_
          refine Post.block_hit ?_
          refine hK8 _ _ ?_
          refine T.region (l := [0, 1, 2]) rfl ?_
          refine RN.qq rfl rfl rfl rfl (PRun.q (p_move rfl (by conv => lhs; whnf))) ?_
          refine RN.qq rfl rfl rfl rfl (PRun.q (by first | exact (p_addN (b := 1) rfl rfl rfl (by omega)) | exact (p_add rfl rfl rfl (by omega)))) ?_
          refine RN.qq rfl rfl rfl rfl (PRun.q (p_assign rfl (by conv => lhs; whnf))) ?_
          refine RN.nil ?_
          refine ⟨(i + 1, fs, .slice q3 fs.length cap3), ⟨by omega, by show fs.length ≤ i + 1; omega, firsts_skip hi hF (fun h => h.elim h22 h29), rfl⟩, (by show _ - (i + 1) < _ - i; omega), (LiveIs.cons rfl (LiveIs.cons rfl (LiveIs.cons rfl LiveIs.nil))), ?_⟩
          exact Ent.refl _
        ·
          refine T.skip ?_
          refine ⟨(), (.inr (Classical.not_not.1 h29)), (LiveIs.cons rfl (LiveIs.cons rfl (LiveIs.cons rfl LiveIs.nil))), Ent.refl _⟩
      ·
        refine RN.O rfl rfl rfl rfl ?_
        refine RN.O rfl rfl rfl rfl ?_
        refine RN.O rfl rfl rfl rfl ?_
        refine RN.O rfl rfl rfl rfl ?_
        refine RN.O rfl rfl rfl rfl ?_
        refine RN.O rfl rfl rfl rfl ?_
        refine RN.qq rfl rfl rfl rfl (PRun.q (p_pick_f rfl rfl (by conv => lhs; whnf))) ?_
        refine RN.nil ?_
        refine hK10 _ _ ?_
        refine T.cond_f rfl ?_
        refine T.skip ?_
        refine ⟨(), (.inl (Classical.not_not.1 h22)), (LiveIs.cons rfl (LiveIs.cons rfl (LiveIs.cons rfl LiveIs.nil))), Ent.refl _⟩
    ·
      rintro ⟨⟩ e9 hval
      refine T.seq fun K11 hK11 => ?_
      refine T.region (l := [0]) rfl ?_
      refine RN.qq rfl rfl rfl rfl (PRun.q (p_assign rfl (by conv => lhs; whnf))) ?_
      refine RN.nil ?_
      refine hK11 _ _ ?_
      refine T.seq fun K12 hK12 => ?_
      refine T.block ?_
      refine T.loop (G := Nat) (fun k => k ≤ fs.length ∧ ∀ j (hj : j < fs.length), j < k → ltK fs[j].key ps[i].key) (fun k => [(0, .slice (some ⟨sb, so, none⟩) ps.length cap), (3, .slice q3 fs.length cap3), (4, intV i), (5, intV k)]) (fun k => [vec 54 39 (.slice q3 fs.length cap3) fs.length (pgs fs), A, Fr]) (fun k => fs.length - k) 0 ⟨Nat.zero_le _, fun j _ h => absurd h (Nat.not_lt_zero _)⟩ (LiveIs.cons rfl (LiveIs.cons rfl (LiveIs.cons rfl (LiveIs.cons rfl LiveIs.nil)))) (Ent.refl _) ?_
      rintro k e13 ⟨hkf, hbel⟩
      refine T.seq fun K14 hK14 => ?_
      refine T.seq fun K15 hK15 => ?_
      refine T.regionD (z := 13) (Bs := [vec 54 39 _ fs.length (pgs fs), A]) (l := [(0, .pure), (1, .pure), (2, .pure), (3, .pure), (4, .pure), (5, .pure), (6, .pure), (7, .pure), (8, .load), (9, .pure), (10, .pure), (11, .pure), (12, .load), (13, .eff), (14, .pure)]) mixed (by kernel_rfl) (by first | exact Ent.refl _ | exact Ent.pull_drop (is := [0, 0]) rfl | exact Ent.pull_drop (is := [0, 1]) rfl | exact Ent.pull_drop (is := [0, 2]) rfl | exact Ent.pull_drop (is := [0, 3]) rfl | exact Ent.pull_drop (is := [0, 4]) rfl | exact Ent.pull_drop (is := [0, 5]) rfl | exact Ent.pull_drop (is := [0, 6]) rfl | exact Ent.pull_drop (is := [1, 0]) rfl | exact Ent.pull_drop (is := [1, 1]) rfl | exact Ent.pull_drop (is := [1, 2]) rfl | exact Ent.pull_drop (is := [1, 3]) rfl | exact Ent.pull_drop (is := [1, 4]) rfl | exact Ent.pull_drop (is := [1, 5]) rfl | exact Ent.pull_drop (is := [1, 6]) rfl | exact Ent.pull_drop (is := [2, 0]) rfl | exact Ent.pull_drop (is := [2, 1]) rfl | exact Ent.pull_drop (is := [2, 2]) rfl | exact Ent.pull_drop (is := [2, 3]) rfl | exact Ent.pull_drop (is := [2, 4]) rfl | exact Ent.pull_drop (is := [2, 5]) rfl | exact Ent.pull_drop (is := [2, 6]) rfl | exact Ent.pull_drop (is := [3, 0]) rfl | exact Ent.pull_drop (is := [3, 1]) rfl | exact Ent.pull_drop (is := [3, 2]) rfl | exact Ent.pull_drop (is := [3, 3]) rfl | exact Ent.pull_drop (is := [3, 4]) rfl | exact Ent.pull_drop (is := [3, 5]) rfl | exact Ent.pull_drop (is := [3, 6]) rfl | exact Ent.pull_drop (is := [4, 0]) rfl | exact Ent.pull_drop (is := [4, 1]) rfl | exact Ent.pull_drop (is := [4, 2]) rfl | exact Ent.pull_drop (is := [4, 3]) rfl | exact Ent.pull_drop (is := [4, 4]) rfl | exact Ent.pull_drop (is := [4, 5]) rfl | exact Ent.pull_drop (is := [4, 6]) rfl | exact Ent.pull_drop (is := [5, 0]) rfl | exact Ent.pull_drop (is := [5, 1]) rfl | exact Ent.pull_drop (is := [5, 2]) rfl | exact Ent.pull_drop (is := [5, 3]) rfl | exact Ent.pull_drop (is := [5, 4]) rfl | exact Ent.pull_drop (is := [5, 5]) rfl | exact Ent.pull_drop (is := [5, 6]) rfl | exact Ent.pull_drop (is := [6, 0]) rfl | exact Ent.pull_drop (is := [6, 1]) rfl | exact Ent.pull_drop (is := [6, 2]) rfl | exact Ent.pull_drop (is := [6, 3]) rfl | exact Ent.pull_drop (is := [6, 4]) rfl | exact Ent.pull_drop (is := [6, 5]) rfl | exact Ent.pull_drop (is := [6, 6]) rfl | exact Ent.pull_drop (is := [7, 0]) rfl | exact Ent.pull_drop (is := [7, 1]) rfl | exact Ent.pull_drop (is := [7, 2]) rfl | exact Ent.pull_drop (is := [7, 3]) rfl | exact Ent.pull_drop (is := [7, 4]) rfl | exact Ent.pull_drop (is := [7, 5]) rfl | exact Ent.pull_drop (is := [7, 6]) rfl) ?_
      refine RD.pp rfl rfl rfl rfl (p_move rfl (by conv => lhs; whnf)) ?_
      refine RD.pp rfl rfl rfl rfl (p_move rfl (by conv => lhs; whnf)) ?_
      refine RD.pp rfl rfl rfl rfl (p_len rfl Try.underlying45 rfl) ?_
      refine RD.pp rfl rfl rfl rfl (p_lss rfl rfl rfl) ?_
      refine RD.pp rfl rfl rfl rfl (p_move rfl (by conv => lhs; whnf)) ?_
      first | refine RD.split_dec 34 rfl (fun h34 => ?_) (fun h34 => ?_) | refine RD.split 34 rfl (fun h34 => ?_) (fun h34 => ?_)
      ·
        have hk : k < fs.length := by omega
        obtain ⟨fb, fo, rfl⟩ := h3f (by omega)
        refine RD.pp rfl rfl rfl rfl (p_move rfl (by conv => lhs; whnf)) ?_
        refine RD.pp rfl rfl rfl rfl (p_move rfl (by conv => lhs; whnf)) ?_
        refine RD.pp rfl rfl rfl rfl (by first | exact (p_indexAddrN rfl Try.underlying45 ts_54 rfl rfl (by omega)) | exact (p_indexAddr rfl Try.underlying45 ts_54 rfl rfl (by omega))) ?_
        refine RD.qq rfl rfl rfl rfl (QRun.ent ((Ent.pull_drop (is := [0]) rfl).trans (Ent.cons (view_of_vec.trans (view_cells (by omega))) (Ent.refl _))) (q_loadCA (us := fs[k].cells) (j := k * 39) rfl ag_54 ts_54 rfl (i := 0) rfl (by rw [pgs_length (fun p hp => (hfit p (List.mem_of_mem_take (hF.sub p hp).1)).ok.pay)]; omega) (pgs_get (fun p hp => (hfit p (List.mem_of_mem_take (hF.sub p hp).1)).ok.pay) hk))) (by first | exact Ent.refl _ | exact Ent.pull_drop (is := [0, 0]) rfl | exact Ent.pull_drop (is := [1, 1]) rfl) ?_
        refine RD.pp rfl rfl rfl rfl (p_move rfl (by conv => lhs; whnf)) ?_
        refine RD.pp rfl rfl rfl rfl (p_move rfl (by conv => lhs; whnf)) ?_
        refine RD.pp rfl rfl rfl rfl (by first | exact (p_indexAddrN rfl Try.underlying45 ts_54 rfl rfl (by omega)) | exact (p_indexAddr rfl Try.underlying45 ts_54 rfl rfl (by omega))) ?_
        refine RD.qq rfl rfl rfl rfl (QRun.ent ((Ent.pull_drop (is := [1]) rfl).trans (Ent.cons (hA.trans (view_cells (by omega))) (Ent.refl _))) (q_loadCA (us := ps[i].cells) (j := i * 39) rfl ag_54 ts_54 rfl (i := 0) rfl (by rw [pgs_length (fun x hx => (hfit x hx).ok.pay)]; omega) (pgs_get (fun x hx => (hfit x hx).ok.pay) hi))) (by first | exact Ent.refl _ | exact Ent.pull_drop (is := [0, 0]) rfl | exact Ent.pull_drop (is := [1, 1]) rfl) ?_
        refine RD.C [] rfl rfl rfl rfl (c_call rfl rfl) (Ahead_spec fs[k] ps[i]) rfl (fun _ _ _ => .inr rfl) ?_
        rintro _ _ ⟨rfl, rfl⟩
        refine RD.pp rfl rfl rfl rfl (p_pick_t rfl rfl (by conv => lhs; whnf)) ?_
        refine RD.nil ?_
        refine hK15 _ _ ?_
        first | refine T.cond_dec rfl (fun h44 => ?_) (fun h44 => ?_) | refine T.cond rfl (fun h44 => ?_) (fun h44 => ?_)
        ·
          refine T.skip ?_
          refine hK14 _ _ ?_
          refine T.block ?_
          refine T.region (l := [0, 1, 2]) rfl ?_
          refine RN.qq rfl rfl rfl rfl (PRun.q (p_move rfl (by conv => lhs; whnf))) ?_
          refine RN.qq rfl rfl rfl rfl (PRun.q (by first | exact (p_addN (b := 1) rfl rfl rfl (by omega)) | exact (p_add rfl rfl rfl (by omega)))) ?_
          refine RN.qq rfl rfl rfl rfl (PRun.q (p_assign rfl (by conv => lhs; whnf))) ?_
          refine RN.nil ?_
          refine ⟨k + 1, ⟨by omega, fun j hj hjk => by by_cases he : j = k; subst he; exact h44; exact hbel j hj (by omega)⟩, (by omega), (LiveIs.cons rfl (LiveIs.cons rfl (LiveIs.cons rfl (LiveIs.cons rfl LiveIs.nil)))), Ent.refl _⟩
        ·
          refine T.exit ?_
          refine Post.seq_x ?_
          refine Post.seq_x ?_
          refine Post.block_hit ?_
          refine hK12 _ _ ?_
          refine T.seq fun K16 hK16 => ?_
          refine T.seq fun K17 hK17 => ?_
          refine T.regionD (z := 13) (Bs := [vec 54 39 _ fs.length (pgs fs), A]) (l := [(0, .pure), (1, .pure), (2, .pure), (3, .pure), (4, .pure), (5, .pure), (6, .pure), (7, .pure), (8, .load), (9, .pure), (10, .pure), (11, .pure), (12, .load), (13, .eff), (14, .pure), (15, .pure)]) mixed (by kernel_rfl) (by first | exact Ent.refl _ | exact Ent.pull_drop (is := [0, 0]) rfl | exact Ent.pull_drop (is := [0, 1]) rfl | exact Ent.pull_drop (is := [0, 2]) rfl | exact Ent.pull_drop (is := [0, 3]) rfl | exact Ent.pull_drop (is := [0, 4]) rfl | exact Ent.pull_drop (is := [0, 5]) rfl | exact Ent.pull_drop (is := [0, 6]) rfl | exact Ent.pull_drop (is := [1, 0]) rfl | exact Ent.pull_drop (is := [1, 1]) rfl | exact Ent.pull_drop (is := [1, 2]) rfl | exact Ent.pull_drop (is := [1, 3]) rfl | exact Ent.pull_drop (is := [1, 4]) rfl | exact Ent.pull_drop (is := [1, 5]) rfl | exact Ent.pull_drop (is := [1, 6]) rfl | exact Ent.pull_drop (is := [2, 0]) rfl | exact Ent.pull_drop (is := [2, 1]) rfl | exact Ent.pull_drop (is := [2, 2]) rfl | exact Ent.pull_drop (is := [2, 3]) rfl | exact Ent.pull_drop (is := [2, 4]) rfl | exact Ent.pull_drop (is := [2, 5]) rfl | exact Ent.pull_drop (is := [2, 6]) rfl | exact Ent.pull_drop (is := [3, 0]) rfl | exact Ent.pull_drop (is := [3, 1]) rfl | exact Ent.pull_drop (is := [3, 2]) rfl | exact Ent.pull_drop (is := [3, 3]) rfl | exact Ent.pull_drop (is := [3, 4]) rfl | exact Ent.pull_drop (is := [3, 5]) rfl | exact Ent.pull_drop (is := [3, 6]) rfl | exact Ent.pull_drop (is := [4, 0]) rfl | exact Ent.pull_drop (is := [4, 1]) rfl | exact Ent.pull_drop (is := [4, 2]) rfl | exact Ent.pull_drop (is := [4, 3]) rfl | exact Ent.pull_drop (is := [4, 4]) rfl | exact Ent.pull_drop (is := [4, 5]) rfl | exact Ent.pull_drop (is := [4, 6]) rfl | exact Ent.pull_drop (is := [5, 0]) rfl | exact Ent.pull_drop (is := [5, 1]) rfl | exact Ent.pull_drop (is := [5, 2]) rfl | exact Ent.pull_drop (is := [5, 3]) rfl | exact Ent.pull_drop (is := [5, 4]) rfl | exact Ent.pull_drop (is := [5, 5]) rfl | exact Ent.pull_drop (is := [5, 6]) rfl | exact Ent.pull_drop (is := [6, 0]) rfl | exact Ent.pull_drop (is := [6, 1]) rfl | exact Ent.pull_drop (is := [6, 2]) rfl | exact Ent.pull_drop (is := [6, 3]) rfl | exact Ent.pull_drop (is := [6, 4]) rfl | exact Ent.pull_drop (is := [6, 5]) rfl | exact Ent.pull_drop (is := [6, 6]) rfl | exact Ent.pull_drop (is := [7, 0]) rfl | exact Ent.pull_drop (is := [7, 1]) rfl | exact Ent.pull_drop (is := [7, 2]) rfl | exact Ent.pull_drop (is := [7, 3]) rfl | exact Ent.pull_drop (is := [7, 4]) rfl | exact Ent.pull_drop (is := [7, 5]) rfl | exact Ent.pull_drop (is := [7, 6]) rfl) ?_
          refine RD.pp rfl rfl rfl rfl (p_move rfl (by conv => lhs; whnf)) ?_
          refine RD.pp rfl rfl rfl rfl (p_move rfl (by conv => lhs; whnf)) ?_
          refine RD.pp rfl rfl rfl rfl (p_len rfl Try.underlying45 rfl) ?_
          refine RD.pp rfl rfl rfl rfl (p_lss rfl rfl rfl) ?_
          refine RD.pp rfl rfl rfl rfl (p_move rfl (by conv => lhs; whnf)) ?_
          refine RD.known 51 rfl (show _ = Value.bool true from congrArg Value.bool (decide_eq_true (by omega))) ?_
          refine RD.pp rfl rfl rfl rfl (p_move rfl (by conv => lhs; whnf)) ?_
          refine RD.pp rfl rfl rfl rfl (p_move rfl (by conv => lhs; whnf)) ?_
          refine RD.pp rfl rfl rfl rfl (by first | exact (p_indexAddrN rfl Try.underlying45 ts_54 rfl rfl (by omega)) | exact (p_indexAddr rfl Try.underlying45 ts_54 rfl rfl (by omega))) ?_
          refine RD.qq rfl rfl rfl rfl (QRun.ent ((Ent.pull_drop (is := [1]) rfl).trans (Ent.cons (hA.trans (view_cells (by omega))) (Ent.refl _))) (q_loadCA (us := ps[i].cells) (j := i * 39) rfl ag_54 ts_54 rfl (i := 0) rfl (by rw [pgs_length (fun x hx => (hfit x hx).ok.pay)]; omega) (pgs_get (fun x hx => (hfit x hx).ok.pay) hi))) (by first | exact Ent.refl _ | exact Ent.pull_drop (is := [0, 0]) rfl | exact Ent.pull_drop (is := [1, 1]) rfl) ?_
          refine RD.pp rfl rfl rfl rfl (p_move rfl (by conv => lhs; whnf)) ?_
          refine RD.pp rfl rfl rfl rfl (p_move rfl (by conv => lhs; whnf)) ?_
          refine RD.pp rfl rfl rfl rfl (by first | exact (p_indexAddrN rfl Try.underlying45 ts_54 rfl rfl (by omega)) | exact (p_indexAddr rfl Try.underlying45 ts_54 rfl rfl (by omega))) ?_
          refine RD.qq rfl rfl rfl rfl (QRun.ent ((Ent.pull_drop (is := [0]) rfl).trans (Ent.cons (view_of_vec.trans (view_cells (by omega))) (Ent.refl _))) (q_loadCA (us := fs[k].cells) (j := k * 39) rfl ag_54 ts_54 rfl (i := 0) rfl (by rw [pgs_length (fun p hp => (hfit p (List.mem_of_mem_take (hF.sub p hp).1)).ok.pay)]; omega) (pgs_get (fun p hp => (hfit p (List.mem_of_mem_take (hF.sub p hp).1)).ok.pay) hk))) (by first | exact Ent.refl _ | exact Ent.pull_drop (is := [0, 0]) rfl | exact Ent.pull_drop (is := [1, 1]) rfl) ?_
          refine RD.C [] rfl rfl rfl rfl (c_call rfl rfl) (Ahead_spec ps[i] fs[k]) rfl (fun _ _ _ => .inr rfl) ?_
          rintro _ _ ⟨rfl, rfl⟩
          refine RD.pp rfl rfl rfl rfl (by first | exact (p_not_dec rfl rfl) | exact (p_not rfl rfl)) ?_
          refine RD.pp rfl rfl rfl rfl (p_pick_t rfl rfl (by conv => lhs; whnf)) ?_
          refine RD.nil ?_
          refine hK17 _ _ ?_
          first | refine T.cond_dec rfl (fun h62 => ?_) (fun h62 => ?_) | refine T.cond rfl (fun h62 => ?_) (fun h62 => ?_)
          ·
            refine T.exit ?_
            refine Post.seq_x ?_
            refine Post.block_hit ?_
            refine hK8 _ _ ?_
            refine T.region (l := [0, 1, 2]) rfl ?_
            refine RN.qq rfl rfl rfl rfl (PRun.q (p_move rfl (by conv => lhs; whnf))) ?_
            refine RN.qq rfl rfl rfl rfl (PRun.q (by first | exact (p_addN (b := 1) rfl rfl rfl (by omega)) | exact (p_add rfl rfl rfl (by omega)))) ?_
            refine RN.qq rfl rfl rfl rfl (PRun.q (p_assign rfl (by conv => lhs; whnf))) ?_
            refine RN.nil ?_
            refine ⟨(i + 1, fs, .slice (some ⟨fb, fo, none⟩) fs.length cap3), ⟨by omega, by show fs.length ≤ i + 1; omega, firsts_has hi hF hk h44 (by simpa using h62), rfl⟩, (by show _ - (i + 1) < _ - i; omega), (LiveIs.cons rfl (LiveIs.cons rfl (LiveIs.cons rfl LiveIs.nil))), ?_⟩
            exact Ent.refl _
          ·
            refine T.skip ?_
            refine hK16 _ _ ?_
            -- EFFECTS UNORDERED [0, 9]
            -- EFFECTS UNORDERED [4, 9]
            refine T.regionT (z := 16) (Bs := [A]) (t := .br [(1, .pure), (2, .pure), (3, .pure), (5, .pure), (6, .pure), (7, .pure), (8, .load), (11, .pure), (12, .pure), (13, .pure)] 0 (.br [] 4 (.go [(9, .eff), (10, .eff), (14, .eff), (15, .pure)]) 9 (.go [(4, .eff), (10, .eff), (14, .eff), (15, .pure)])) 9 (.go [(0, .eff), (4, .eff), (10, .eff), (14, .eff), (15, .pure)])) mixed (by kernel_rfl) (by first | exact Ent.refl _ | exact Ent.pull_drop (is := [0]) rfl | exact Ent.pull_drop (is := [1]) rfl | exact Ent.pull_drop (is := [2]) rfl | exact Ent.pull_drop (is := [3]) rfl | exact Ent.pull_drop (is := [4]) rfl | exact Ent.pull_drop (is := [5]) rfl | exact Ent.pull_drop (is := [6]) rfl | exact Ent.pull_drop (is := [7]) rfl) ?_
            refine RDT.br ?_
            refine RD.pp rfl rfl rfl rfl (p_move rfl (by conv => lhs; whnf)) ?_
            refine RD.pp rfl rfl rfl rfl (p_move rfl (by conv => lhs; whnf)) ?_
            refine RD.pp rfl rfl rfl rfl (run_sliceAny (l := 0) (h := k) rfl Try.underlying45 ts_54 rfl rfl rfl ⟨by omega, by omega⟩) ?_
            refine RD.pp rfl rfl rfl rfl (p_move rfl (by conv => lhs; whnf)) ?_
            refine RD.pp rfl rfl rfl rfl (p_move rfl (by conv => lhs; whnf)) ?_
            refine RD.pp rfl rfl rfl rfl (by first | exact (p_indexAddrN rfl Try.underlying45 ts_54 rfl rfl (by omega)) | exact (p_indexAddr rfl Try.underlying45 ts_54 rfl rfl (by omega))) ?_
            refine RD.qq rfl rfl rfl rfl (QRun.ent ((Ent.pull_drop (is := [0]) rfl).trans (Ent.cons (hA.trans (view_cells (by omega))) (Ent.refl _))) (q_loadCA (us := ps[i].cells) (j := i * 39) rfl ag_54 ts_54 rfl (i := 0) rfl (by rw [pgs_length (fun x hx => (hfit x hx).ok.pay)]; omega) (pgs_get (fun x hx => (hfit x hx).ok.pay) hi))) (by first | exact Ent.refl _ | exact Ent.pull_drop (is := [1]) rfl | exact Ent.pull_drop (is := [2]) rfl | exact Ent.pull_drop (is := [3]) rfl) ?_
            refine RD.pp rfl rfl rfl rfl (p_move rfl (by conv => lhs; whnf)) ?_
            refine RD.pp rfl rfl rfl rfl (p_move rfl (by conv => lhs; whnf)) ?_
            refine RD.pp rfl rfl rfl rfl (run_sliceAny (l := k) (h := fs.length) rfl Try.underlying45 ts_54 rfl rfl rfl ⟨by omega, by omega⟩) ?_
            refine RD.nil ?_
            refine ⟨?_, ?_⟩
            ·
              refine RD.E rfl rfl rfl rfl (e_buildSlice0 rfl Try.underlying45 ti_54 rfl) (by rintro _ _ ⟨_, rfl, rfl⟩; exact .inl (by first | exact Ent.refl _ | exact Ent.pull_drop (is := [0]) rfl | exact Ent.pull_drop (is := [1]) rfl | exact Ent.pull_drop (is := [2]) rfl | exact Ent.pull_drop (is := [3]) rfl | exact Ent.pull_drop (is := [4]) rfl | exact Ent.pull_drop (is := [5]) rfl | exact Ent.pull_drop (is := [6]) rfl | exact Ent.pull_drop (is := [7]) rfl)) ?_
              rintro _ _ ⟨b63, rfl, rfl⟩
              refine RD.nil ?_
              refine RDT.br ?_
              refine RD.nil ?_
              refine ⟨?_, ?_⟩
              ·
                refine RD.ent (Ent.cons (vec_empty (el := 54) (sz := 39)) (Ent.refl _)) ?_
                refine RD.E rfl rfl rfl rfl (e_append (m := k - 0) rfl Try.underlying45 ni_45 ti_54 rfl rfl (i := 0) rfl (src_sub (v := (.slice (some ⟨fb, fo, none⟩) fs.length cap3)) (L := fs) (l := 0) (h := k) (i := 1) rfl (fun p hp => (hfit p (List.mem_of_mem_take (hF.sub p hp).1)).ok.pay) (by omega) (by omega)) pgs_all (by omega)) (by rintro _ _ ⟨_, rfl⟩; exact .inl (by first | exact Ent.pull_drop (is := [1]) rfl | exact Ent.pull_drop (is := [2]) rfl | exact Ent.pull_drop (is := [3]) rfl)) ?_
                rintro v67 _ ⟨hv67, rfl⟩
                refine RD.nil ?_
                refine RDT.go ?_
                refine RD.E rfl rfl rfl rfl (e_buildSlice1A rfl Try.underlying45 ti_54 rfl rfl (Pg.cells_length hqf.ok.pay) (by decide)) (by rintro _ _ ⟨_, rfl, rfl⟩; exact .inl (by first | exact Ent.pull_drop (is := [1]) rfl | exact Ent.pull_drop (is := [2]) rfl | exact Ent.pull_drop (is := [3]) rfl)) ?_
                rintro _ _ ⟨b72, rfl, rfl⟩
                refine RD.E rfl rfl rfl rfl (e_append rfl Try.underlying45 ni_45 ti_54 rfl rfl (i := 1) rfl (src_full (i := 0) rfl (Pg.cells_length hqf.ok.pay)) Pg.one (by omega)) (by rintro _ _ ⟨_, rfl⟩; exact .inl (by first | exact Ent.pull_drop (is := [1]) rfl | exact Ent.pull_drop (is := [2]) rfl | exact Ent.pull_drop (is := [3]) rfl)) ?_
                rintro v73 _ ⟨hv73, rfl⟩
                refine RD.E rfl rfl rfl rfl (e_append (m := fs.length - k) rfl Try.underlying45 ni_45 ti_54 rfl rfl (i := 1) rfl (src_sub (v := (.slice (some ⟨fb, fo, none⟩) fs.length cap3)) (L := fs) (l := k) (h := fs.length) (i := 2) rfl (fun p hp => (hfit p (List.mem_of_mem_take (hF.sub p hp).1)).ok.pay) (by omega) (by omega)) pgs_all (by omega)) (by rintro _ _ ⟨_, rfl⟩; exact .inl (by first | exact Ent.pull_drop (is := [1]) rfl | exact Ent.pull_drop (is := [2]) rfl | exact Ent.pull_drop (is := [3]) rfl)) ?_
                rintro v77 _ ⟨hv77, rfl⟩
                refine RD.pp rfl rfl rfl rfl (p_assign rfl (by conv => lhs; whnf)) ?_
                refine RD.nil ?_
                refine hK8 _ _ ?_
                refine T.region (l := [0, 1, 2]) rfl ?_
                refine RN.qq rfl rfl rfl rfl (PRun.q (p_move rfl (by conv => lhs; whnf))) ?_
                refine RN.qq rfl rfl rfl rfl (PRun.q (by first | exact (p_addN (b := 1) rfl rfl rfl (by omega)) | exact (p_add rfl rfl rfl (by omega)))) ?_
                refine RN.qq rfl rfl rfl rfl (PRun.q (p_assign rfl (by conv => lhs; whnf))) ?_
                refine RN.nil ?_
                refine ⟨(i + 1, (fs.take k ++ [ps[i]]) ++ fs.drop k, v77), ⟨by omega, by show ((fs.take k ++ [ps[i]]) ++ fs.drop k).length ≤ i + 1; rw [firsts_len hkf]; omega, firsts_new hi hF hval hkf hbel (fun _ => by simpa using h62), hv77⟩, (by show _ - (i + 1) < _ - i; omega), (LiveIs.cons rfl (LiveIs.cons rfl (LiveIs.cons rfl LiveIs.nil))), ?_⟩
                refine (Ent.pull_drop (is := [1, 2, 2]) rfl).trans (Ent.cons (vec_same (by rw [firsts_len hkf]; omega) (firsts_pgs hkf)) (Ent.refl _))
              ·
                refine RD.E rfl rfl rfl rfl (e_buildSlice1A rfl Try.underlying45 ti_54 rfl rfl (Pg.cells_length hqf.ok.pay) (by decide)) (by rintro _ _ ⟨_, rfl, rfl⟩; exact .inl (by first | exact Ent.pull_drop (is := [1]) rfl | exact Ent.pull_drop (is := [2]) rfl | exact Ent.pull_drop (is := [3]) rfl)) ?_
                rintro _ _ ⟨b72, rfl, rfl⟩
                refine RD.nil ?_
                refine RDT.go ?_
                refine RD.ent (Ent.at (i := 1) rfl (vec_empty (el := 54) (sz := 39))) ?_
                refine RD.E rfl rfl rfl rfl (e_append (m := k - 0) rfl Try.underlying45 ni_45 ti_54 rfl rfl (i := 1) rfl (src_sub (v := (.slice (some ⟨fb, fo, none⟩) fs.length cap3)) (L := fs) (l := 0) (h := k) (i := 2) rfl (fun p hp => (hfit p (List.mem_of_mem_take (hF.sub p hp).1)).ok.pay) (by omega) (by omega)) pgs_all (by omega)) (by rintro _ _ ⟨_, rfl⟩; exact .inl (by first | exact Ent.pull_drop (is := [1]) rfl | exact Ent.pull_drop (is := [2]) rfl | exact Ent.pull_drop (is := [3]) rfl)) ?_
                rintro v67 _ ⟨hv67, rfl⟩
                refine RD.E rfl rfl rfl rfl (e_append rfl Try.underlying45 ni_45 ti_54 rfl rfl (i := 1) rfl (src_full (i := 0) rfl (Pg.cells_length hqf.ok.pay)) Pg.one (by omega)) (by rintro _ _ ⟨_, rfl⟩; exact .inl (by first | exact Ent.pull_drop (is := [1]) rfl | exact Ent.pull_drop (is := [2]) rfl | exact Ent.pull_drop (is := [3]) rfl)) ?_
                rintro v73 _ ⟨hv73, rfl⟩
                refine RD.E rfl rfl rfl rfl (e_append (m := fs.length - k) rfl Try.underlying45 ni_45 ti_54 rfl rfl (i := 1) rfl (src_sub (v := (.slice (some ⟨fb, fo, none⟩) fs.length cap3)) (L := fs) (l := k) (h := fs.length) (i := 2) rfl (fun p hp => (hfit p (List.mem_of_mem_take (hF.sub p hp).1)).ok.pay) (by omega) (by omega)) pgs_all (by omega)) (by rintro _ _ ⟨_, rfl⟩; exact .inl (by first | exact Ent.pull_drop (is := [1]) rfl | exact Ent.pull_drop (is := [2]) rfl | exact Ent.pull_drop (is := [3]) rfl)) ?_
                rintro v77 _ ⟨hv77, rfl⟩
                refine RD.pp rfl rfl rfl rfl (p_assign rfl (by conv => lhs; whnf)) ?_
                refine RD.nil ?_
                refine hK8 _ _ ?_
                refine T.region (l := [0, 1, 2]) rfl ?_
                refine RN.qq rfl rfl rfl rfl (PRun.q (p_move rfl (by conv => lhs; whnf))) ?_
                refine RN.qq rfl rfl rfl rfl (PRun.q (by first | exact (p_addN (b := 1) rfl rfl rfl (by omega)) | exact (p_add rfl rfl rfl (by omega)))) ?_
                refine RN.qq rfl rfl rfl rfl (PRun.q (p_assign rfl (by conv => lhs; whnf))) ?_
                refine RN.nil ?_
                refine ⟨(i + 1, (fs.take k ++ [ps[i]]) ++ fs.drop k, v77), ⟨by omega, by show ((fs.take k ++ [ps[i]]) ++ fs.drop k).length ≤ i + 1; rw [firsts_len hkf]; omega, firsts_new hi hF hval hkf hbel (fun _ => by simpa using h62), hv77⟩, (by show _ - (i + 1) < _ - i; omega), (LiveIs.cons rfl (LiveIs.cons rfl (LiveIs.cons rfl LiveIs.nil))), ?_⟩
                refine (Ent.pull_drop (is := [1, 2, 2]) rfl).trans (Ent.cons (vec_same (by rw [firsts_len hkf]; omega) (firsts_pgs hkf)) (Ent.refl _))
            ·
              refine RD.E rfl rfl rfl rfl (e_buildSlice1A rfl Try.underlying45 ti_54 rfl rfl (Pg.cells_length hqf.ok.pay) (by decide)) (by rintro _ _ ⟨_, rfl, rfl⟩; exact .inl (by first | exact Ent.pull_drop (is := [1]) rfl | exact Ent.pull_drop (is := [2]) rfl | exact Ent.pull_drop (is := [3]) rfl)) ?_
              rintro _ _ ⟨b72, rfl, rfl⟩
              refine RD.nil ?_
              refine RDT.go ?_
              refine RD.E rfl rfl rfl rfl (e_buildSlice0 rfl Try.underlying45 ti_54 rfl) (by rintro _ _ ⟨_, rfl, rfl⟩; exact .inl (by first | exact Ent.refl _ | exact Ent.pull_drop (is := [0]) rfl | exact Ent.pull_drop (is := [1]) rfl | exact Ent.pull_drop (is := [2]) rfl | exact Ent.pull_drop (is := [3]) rfl | exact Ent.pull_drop (is := [4]) rfl | exact Ent.pull_drop (is := [5]) rfl | exact Ent.pull_drop (is := [6]) rfl | exact Ent.pull_drop (is := [7]) rfl)) ?_
              rintro _ _ ⟨b63, rfl, rfl⟩
              refine RD.ent (Ent.cons (vec_empty (el := 54) (sz := 39)) (Ent.refl _)) ?_
              refine RD.E rfl rfl rfl rfl (e_append (m := k - 0) rfl Try.underlying45 ni_45 ti_54 rfl rfl (i := 0) rfl (src_sub (v := (.slice (some ⟨fb, fo, none⟩) fs.length cap3)) (L := fs) (l := 0) (h := k) (i := 2) rfl (fun p hp => (hfit p (List.mem_of_mem_take (hF.sub p hp).1)).ok.pay) (by omega) (by omega)) pgs_all (by omega)) (by rintro _ _ ⟨_, rfl⟩; exact .inl (by first | exact Ent.pull_drop (is := [1]) rfl | exact Ent.pull_drop (is := [2]) rfl | exact Ent.pull_drop (is := [3]) rfl)) ?_
              rintro v67 _ ⟨hv67, rfl⟩
              refine RD.E rfl rfl rfl rfl (e_append rfl Try.underlying45 ni_45 ti_54 rfl rfl (i := 0) rfl (src_full (i := 1) rfl (Pg.cells_length hqf.ok.pay)) Pg.one (by omega)) (by rintro _ _ ⟨_, rfl⟩; exact .inl (by first | exact Ent.pull_drop (is := [1]) rfl | exact Ent.pull_drop (is := [2]) rfl | exact Ent.pull_drop (is := [3]) rfl)) ?_
              rintro v73 _ ⟨hv73, rfl⟩
              refine RD.E rfl rfl rfl rfl (e_append (m := fs.length - k) rfl Try.underlying45 ni_45 ti_54 rfl rfl (i := 0) rfl (src_sub (v := (.slice (some ⟨fb, fo, none⟩) fs.length cap3)) (L := fs) (l := k) (h := fs.length) (i := 2) rfl (fun p hp => (hfit p (List.mem_of_mem_take (hF.sub p hp).1)).ok.pay) (by omega) (by omega)) pgs_all (by omega)) (by rintro _ _ ⟨_, rfl⟩; exact .inl (by first | exact Ent.pull_drop (is := [1]) rfl | exact Ent.pull_drop (is := [2]) rfl | exact Ent.pull_drop (is := [3]) rfl)) ?_
              rintro v77 _ ⟨hv77, rfl⟩
              refine RD.pp rfl rfl rfl rfl (p_assign rfl (by conv => lhs; whnf)) ?_
              refine RD.nil ?_
              refine hK8 _ _ ?_
              refine T.region (l := [0, 1, 2]) rfl ?_
              refine RN.qq rfl rfl rfl rfl (PRun.q (p_move rfl (by conv => lhs; whnf))) ?_
              refine RN.qq rfl rfl rfl rfl (PRun.q (by first | exact (p_addN (b := 1) rfl rfl rfl (by omega)) | exact (p_add rfl rfl rfl (by omega)))) ?_
              refine RN.qq rfl rfl rfl rfl (PRun.q (p_assign rfl (by conv => lhs; whnf))) ?_
              refine RN.nil ?_
              refine ⟨(i + 1, (fs.take k ++ [ps[i]]) ++ fs.drop k, v77), ⟨by omega, by show ((fs.take k ++ [ps[i]]) ++ fs.drop k).length ≤ i + 1; rw [firsts_len hkf]; omega, firsts_new hi hF hval hkf hbel (fun _ => by simpa using h62), hv77⟩, (by show _ - (i + 1) < _ - i; omega), (LiveIs.cons rfl (LiveIs.cons rfl (LiveIs.cons rfl LiveIs.nil))), ?_⟩
              refine (Ent.pull_drop (is := [0, 2, 2]) rfl).trans (Ent.cons (vec_same (by rw [firsts_len hkf]; omega) (firsts_pgs hkf)) (Ent.refl _))
      ·
        have hk : k = fs.length := by omega
        refine RD.OP rfl rfl rfl rfl ?_
        refine RD.OP rfl rfl rfl rfl ?_
        refine RD.OP rfl rfl rfl rfl ?_
        refine RD.OL rfl rfl rfl rfl (by first | exact Ent.refl _ | exact Ent.pull_drop (is := [0, 0]) rfl | exact Ent.pull_drop (is := [0, 1]) rfl | exact Ent.pull_drop (is := [0, 2]) rfl | exact Ent.pull_drop (is := [0, 3]) rfl | exact Ent.pull_drop (is := [0, 4]) rfl | exact Ent.pull_drop (is := [0, 5]) rfl | exact Ent.pull_drop (is := [0, 6]) rfl | exact Ent.pull_drop (is := [1, 0]) rfl | exact Ent.pull_drop (is := [1, 1]) rfl | exact Ent.pull_drop (is := [1, 2]) rfl | exact Ent.pull_drop (is := [1, 3]) rfl | exact Ent.pull_drop (is := [1, 4]) rfl | exact Ent.pull_drop (is := [1, 5]) rfl | exact Ent.pull_drop (is := [1, 6]) rfl | exact Ent.pull_drop (is := [2, 0]) rfl | exact Ent.pull_drop (is := [2, 1]) rfl | exact Ent.pull_drop (is := [2, 2]) rfl | exact Ent.pull_drop (is := [2, 3]) rfl | exact Ent.pull_drop (is := [2, 4]) rfl | exact Ent.pull_drop (is := [2, 5]) rfl | exact Ent.pull_drop (is := [2, 6]) rfl | exact Ent.pull_drop (is := [3, 0]) rfl | exact Ent.pull_drop (is := [3, 1]) rfl | exact Ent.pull_drop (is := [3, 2]) rfl | exact Ent.pull_drop (is := [3, 3]) rfl | exact Ent.pull_drop (is := [3, 4]) rfl | exact Ent.pull_drop (is := [3, 5]) rfl | exact Ent.pull_drop (is := [3, 6]) rfl | exact Ent.pull_drop (is := [4, 0]) rfl | exact Ent.pull_drop (is := [4, 1]) rfl | exact Ent.pull_drop (is := [4, 2]) rfl | exact Ent.pull_drop (is := [4, 3]) rfl | exact Ent.pull_drop (is := [4, 4]) rfl | exact Ent.pull_drop (is := [4, 5]) rfl | exact Ent.pull_drop (is := [4, 6]) rfl | exact Ent.pull_drop (is := [5, 0]) rfl | exact Ent.pull_drop (is := [5, 1]) rfl | exact Ent.pull_drop (is := [5, 2]) rfl | exact Ent.pull_drop (is := [5, 3]) rfl | exact Ent.pull_drop (is := [5, 4]) rfl | exact Ent.pull_drop (is := [5, 5]) rfl | exact Ent.pull_drop (is := [5, 6]) rfl | exact Ent.pull_drop (is := [6, 0]) rfl | exact Ent.pull_drop (is := [6, 1]) rfl | exact Ent.pull_drop (is := [6, 2]) rfl | exact Ent.pull_drop (is := [6, 3]) rfl | exact Ent.pull_drop (is := [6, 4]) rfl | exact Ent.pull_drop (is := [6, 5]) rfl | exact Ent.pull_drop (is := [6, 6]) rfl | exact Ent.pull_drop (is := [7, 0]) rfl | exact Ent.pull_drop (is := [7, 1]) rfl | exact Ent.pull_drop (is := [7, 2]) rfl | exact Ent.pull_drop (is := [7, 3]) rfl | exact Ent.pull_drop (is := [7, 4]) rfl | exact Ent.pull_drop (is := [7, 5]) rfl | exact Ent.pull_drop (is := [7, 6]) rfl) ?_
        refine RD.OP rfl rfl rfl rfl ?_
        refine RD.OP rfl rfl rfl rfl ?_
        refine RD.OP rfl rfl rfl rfl ?_
        refine RD.OL rfl rfl rfl rfl (by first | exact Ent.refl _ | exact Ent.pull_drop (is := [0, 0]) rfl | exact Ent.pull_drop (is := [0, 1]) rfl | exact Ent.pull_drop (is := [0, 2]) rfl | exact Ent.pull_drop (is := [0, 3]) rfl | exact Ent.pull_drop (is := [0, 4]) rfl | exact Ent.pull_drop (is := [0, 5]) rfl | exact Ent.pull_drop (is := [0, 6]) rfl | exact Ent.pull_drop (is := [1, 0]) rfl | exact Ent.pull_drop (is := [1, 1]) rfl | exact Ent.pull_drop (is := [1, 2]) rfl | exact Ent.pull_drop (is := [1, 3]) rfl | exact Ent.pull_drop (is := [1, 4]) rfl | exact Ent.pull_drop (is := [1, 5]) rfl | exact Ent.pull_drop (is := [1, 6]) rfl | exact Ent.pull_drop (is := [2, 0]) rfl | exact Ent.pull_drop (is := [2, 1]) rfl | exact Ent.pull_drop (is := [2, 2]) rfl | exact Ent.pull_drop (is := [2, 3]) rfl | exact Ent.pull_drop (is := [2, 4]) rfl | exact Ent.pull_drop (is := [2, 5]) rfl | exact Ent.pull_drop (is := [2, 6]) rfl | exact Ent.pull_drop (is := [3, 0]) rfl | exact Ent.pull_drop (is := [3, 1]) rfl | exact Ent.pull_drop (is := [3, 2]) rfl | exact Ent.pull_drop (is := [3, 3]) rfl | exact Ent.pull_drop (is := [3, 4]) rfl | exact Ent.pull_drop (is := [3, 5]) rfl | exact Ent.pull_drop (is := [3, 6]) rfl | exact Ent.pull_drop (is := [4, 0]) rfl | exact Ent.pull_drop (is := [4, 1]) rfl | exact Ent.pull_drop (is := [4, 2]) rfl | exact Ent.pull_drop (is := [4, 3]) rfl | exact Ent.pull_drop (is := [4, 4]) rfl | exact Ent.pull_drop (is := [4, 5]) rfl | exact Ent.pull_drop (is := [4, 6]) rfl | exact Ent.pull_drop (is := [5, 0]) rfl | exact Ent.pull_drop (is := [5, 1]) rfl | exact Ent.pull_drop (is := [5, 2]) rfl | exact Ent.pull_drop (is := [5, 3]) rfl | exact Ent.pull_drop (is := [5, 4]) rfl | exact Ent.pull_drop (is := [5, 5]) rfl | exact Ent.pull_drop (is := [5, 6]) rfl | exact Ent.pull_drop (is := [6, 0]) rfl | exact Ent.pull_drop (is := [6, 1]) rfl | exact Ent.pull_drop (is := [6, 2]) rfl | exact Ent.pull_drop (is := [6, 3]) rfl | exact Ent.pull_drop (is := [6, 4]) rfl | exact Ent.pull_drop (is := [6, 5]) rfl | exact Ent.pull_drop (is := [6, 6]) rfl | exact Ent.pull_drop (is := [7, 0]) rfl | exact Ent.pull_drop (is := [7, 1]) rfl | exact Ent.pull_drop (is := [7, 2]) rfl | exact Ent.pull_drop (is := [7, 3]) rfl | exact Ent.pull_drop (is := [7, 4]) rfl | exact Ent.pull_drop (is := [7, 5]) rfl | exact Ent.pull_drop (is := [7, 6]) rfl) ?_
        refine RD.OE rfl rfl rfl rfl (.inr rfl) ?_
        refine RD.pp rfl rfl rfl rfl (p_pick_f rfl rfl (by conv => lhs; whnf)) ?_
        refine RD.nil ?_
        refine hK15 _ _ ?_
        refine T.cond_f rfl ?_
        refine T.exit ?_
        refine Post.seq_x ?_
        refine Post.seq_x ?_
        refine Post.block_hit ?_
        refine hK12 _ _ ?_
        refine T.seq fun K18 hK18 => ?_
        refine T.seq fun K19 hK19 => ?_
        refine T.regionD (z := 13) (Bs := [vec 54 39 _ fs.length (pgs fs), A]) (l := [(0, .pure), (1, .pure), (2, .pure), (3, .pure), (4, .pure), (5, .pure), (6, .pure), (7, .pure), (8, .load), (9, .pure), (10, .pure), (11, .pure), (12, .load), (13, .eff), (14, .pure), (15, .pure)]) mixed (by kernel_rfl) (by first | exact Ent.refl _ | exact Ent.pull_drop (is := [0, 0]) rfl | exact Ent.pull_drop (is := [0, 1]) rfl | exact Ent.pull_drop (is := [0, 2]) rfl | exact Ent.pull_drop (is := [0, 3]) rfl | exact Ent.pull_drop (is := [0, 4]) rfl | exact Ent.pull_drop (is := [0, 5]) rfl | exact Ent.pull_drop (is := [0, 6]) rfl | exact Ent.pull_drop (is := [1, 0]) rfl | exact Ent.pull_drop (is := [1, 1]) rfl | exact Ent.pull_drop (is := [1, 2]) rfl | exact Ent.pull_drop (is := [1, 3]) rfl | exact Ent.pull_drop (is := [1, 4]) rfl | exact Ent.pull_drop (is := [1, 5]) rfl | exact Ent.pull_drop (is := [1, 6]) rfl | exact Ent.pull_drop (is := [2, 0]) rfl | exact Ent.pull_drop (is := [2, 1]) rfl | exact Ent.pull_drop (is := [2, 2]) rfl | exact Ent.pull_drop (is := [2, 3]) rfl | exact Ent.pull_drop (is := [2, 4]) rfl | exact Ent.pull_drop (is := [2, 5]) rfl | exact Ent.pull_drop (is := [2, 6]) rfl | exact Ent.pull_drop (is := [3, 0]) rfl | exact Ent.pull_drop (is := [3, 1]) rfl | exact Ent.pull_drop (is := [3, 2]) rfl | exact Ent.pull_drop (is := [3, 3]) rfl | exact Ent.pull_drop (is := [3, 4]) rfl | exact Ent.pull_drop (is := [3, 5]) rfl | exact Ent.pull_drop (is := [3, 6]) rfl | exact Ent.pull_drop (is := [4, 0]) rfl | exact Ent.pull_drop (is := [4, 1]) rfl | exact Ent.pull_drop (is := [4, 2]) rfl | exact Ent.pull_drop (is := [4, 3]) rfl | exact Ent.pull_drop (is := [4, 4]) rfl | exact Ent.pull_drop (is := [4, 5]) rfl | exact Ent.pull_drop (is := [4, 6]) rfl | exact Ent.pull_drop (is := [5, 0]) rfl | exact Ent.pull_drop (is := [5, 1]) rfl | exact Ent.pull_drop (is := [5, 2]) rfl | exact Ent.pull_drop (is := [5, 3]) rfl | exact Ent.pull_drop (is := [5, 4]) rfl | exact Ent.pull_drop (is := [5, 5]) rfl | exact Ent.pull_drop (is := [5, 6]) rfl | exact Ent.pull_drop (is := [6, 0]) rfl | exact Ent.pull_drop (is := [6, 1]) rfl | exact Ent.pull_drop (is := [6, 2]) rfl | exact Ent.pull_drop (is := [6, 3]) rfl | exact Ent.pull_drop (is := [6, 4]) rfl | exact Ent.pull_drop (is := [6, 5]) rfl | exact Ent.pull_drop (is := [6, 6]) rfl | exact Ent.pull_drop (is := [7, 0]) rfl | exact Ent.pull_drop (is := [7, 1]) rfl | exact Ent.pull_drop (is := [7, 2]) rfl | exact Ent.pull_drop (is := [7, 3]) rfl | exact Ent.pull_drop (is := [7, 4]) rfl | exact Ent.pull_drop (is := [7, 5]) rfl | exact Ent.pull_drop (is := [7, 6]) rfl) ?_
        refine RD.pp rfl rfl rfl rfl (p_move rfl (by conv => lhs; whnf)) ?_
        refine RD.pp rfl rfl rfl rfl (p_move rfl (by conv => lhs; whnf)) ?_
        refine RD.pp rfl rfl rfl rfl (p_len rfl Try.underlying45 rfl) ?_
        refine RD.pp rfl rfl rfl rfl (p_lss rfl rfl rfl) ?_
        refine RD.pp rfl rfl rfl rfl (p_move rfl (by conv => lhs; whnf)) ?_
        refine RD.known 51 rfl (show _ = Value.bool false from congrArg Value.bool (decide_eq_false (by omega))) ?_
        refine RD.OP rfl rfl rfl rfl ?_
        refine RD.OP rfl rfl rfl rfl ?_
        refine RD.OP rfl rfl rfl rfl ?_
        refine RD.OL rfl rfl rfl rfl (by first | exact Ent.refl _ | exact Ent.pull_drop (is := [0, 0]) rfl | exact Ent.pull_drop (is := [0, 1]) rfl | exact Ent.pull_drop (is := [0, 2]) rfl | exact Ent.pull_drop (is := [0, 3]) rfl | exact Ent.pull_drop (is := [0, 4]) rfl | exact Ent.pull_drop (is := [0, 5]) rfl | exact Ent.pull_drop (is := [0, 6]) rfl | exact Ent.pull_drop (is := [1, 0]) rfl | exact Ent.pull_drop (is := [1, 1]) rfl | exact Ent.pull_drop (is := [1, 2]) rfl | exact Ent.pull_drop (is := [1, 3]) rfl | exact Ent.pull_drop (is := [1, 4]) rfl | exact Ent.pull_drop (is := [1, 5]) rfl | exact Ent.pull_drop (is := [1, 6]) rfl | exact Ent.pull_drop (is := [2, 0]) rfl | exact Ent.pull_drop (is := [2, 1]) rfl | exact Ent.pull_drop (is := [2, 2]) rfl | exact Ent.pull_drop (is := [2, 3]) rfl | exact Ent.pull_drop (is := [2, 4]) rfl | exact Ent.pull_drop (is := [2, 5]) rfl | exact Ent.pull_drop (is := [2, 6]) rfl | exact Ent.pull_drop (is := [3, 0]) rfl | exact Ent.pull_drop (is := [3, 1]) rfl | exact Ent.pull_drop (is := [3, 2]) rfl | exact Ent.pull_drop (is := [3, 3]) rfl | exact Ent.pull_drop (is := [3, 4]) rfl | exact Ent.pull_drop (is := [3, 5]) rfl | exact Ent.pull_drop (is := [3, 6]) rfl | exact Ent.pull_drop (is := [4, 0]) rfl | exact Ent.pull_drop (is := [4, 1]) rfl | exact Ent.pull_drop (is := [4, 2]) rfl | exact Ent.pull_drop (is := [4, 3]) rfl | exact Ent.pull_drop (is := [4, 4]) rfl | exact Ent.pull_drop (is := [4, 5]) rfl | exact Ent.pull_drop (is := [4, 6]) rfl | exact Ent.pull_drop (is := [5, 0]) rfl | exact Ent.pull_drop (is := [5, 1]) rfl | exact Ent.pull_drop (is := [5, 2]) rfl | exact Ent.pull_drop (is := [5, 3]) rfl | exact Ent.pull_drop (is := [5, 4]) rfl | exact Ent.pull_drop (is := [5, 5]) rfl | exact Ent.pull_drop (is := [5, 6]) rfl | exact Ent.pull_drop (is := [6, 0]) rfl | exact Ent.pull_drop (is := [6, 1]) rfl | exact Ent.pull_drop (is := [6, 2]) rfl | exact Ent.pull_drop (is := [6, 3]) rfl | exact Ent.pull_drop (is := [6, 4]) rfl | exact Ent.pull_drop (is := [6, 5]) rfl | exact Ent.pull_drop (is := [6, 6]) rfl | exact Ent.pull_drop (is := [7, 0]) rfl | exact Ent.pull_drop (is := [7, 1]) rfl | exact Ent.pull_drop (is := [7, 2]) rfl | exact Ent.pull_drop (is := [7, 3]) rfl | exact Ent.pull_drop (is := [7, 4]) rfl | exact Ent.pull_drop (is := [7, 5]) rfl | exact Ent.pull_drop (is := [7, 6]) rfl) ?_
        refine RD.OP rfl rfl rfl rfl ?_
        refine RD.OP rfl rfl rfl rfl ?_
        refine RD.OP rfl rfl rfl rfl ?_
        refine RD.OL rfl rfl rfl rfl (by first | exact Ent.refl _ | exact Ent.pull_drop (is := [0, 0]) rfl | exact Ent.pull_drop (is := [0, 1]) rfl | exact Ent.pull_drop (is := [0, 2]) rfl | exact Ent.pull_drop (is := [0, 3]) rfl | exact Ent.pull_drop (is := [0, 4]) rfl | exact Ent.pull_drop (is := [0, 5]) rfl | exact Ent.pull_drop (is := [0, 6]) rfl | exact Ent.pull_drop (is := [1, 0]) rfl | exact Ent.pull_drop (is := [1, 1]) rfl | exact Ent.pull_drop (is := [1, 2]) rfl | exact Ent.pull_drop (is := [1, 3]) rfl | exact Ent.pull_drop (is := [1, 4]) rfl | exact Ent.pull_drop (is := [1, 5]) rfl | exact Ent.pull_drop (is := [1, 6]) rfl | exact Ent.pull_drop (is := [2, 0]) rfl | exact Ent.pull_drop (is := [2, 1]) rfl | exact Ent.pull_drop (is := [2, 2]) rfl | exact Ent.pull_drop (is := [2, 3]) rfl | exact Ent.pull_drop (is := [2, 4]) rfl | exact Ent.pull_drop (is := [2, 5]) rfl | exact Ent.pull_drop (is := [2, 6]) rfl | exact Ent.pull_drop (is := [3, 0]) rfl | exact Ent.pull_drop (is := [3, 1]) rfl | exact Ent.pull_drop (is := [3, 2]) rfl | exact Ent.pull_drop (is := [3, 3]) rfl | exact Ent.pull_drop (is := [3, 4]) rfl | exact Ent.pull_drop (is := [3, 5]) rfl | exact Ent.pull_drop (is := [3, 6]) rfl | exact Ent.pull_drop (is := [4, 0]) rfl | exact Ent.pull_drop (is := [4, 1]) rfl | exact Ent.pull_drop (is := [4, 2]) rfl | exact Ent.pull_drop (is := [4, 3]) rfl | exact Ent.pull_drop (is := [4, 4]) rfl | exact Ent.pull_drop (is := [4, 5]) rfl | exact Ent.pull_drop (is := [4, 6]) rfl | exact Ent.pull_drop (is := [5, 0]) rfl | exact Ent.pull_drop (is := [5, 1]) rfl | exact Ent.pull_drop (is := [5, 2]) rfl | exact Ent.pull_drop (is := [5, 3]) rfl | exact Ent.pull_drop (is := [5, 4]) rfl | exact Ent.pull_drop (is := [5, 5]) rfl | exact Ent.pull_drop (is := [5, 6]) rfl | exact Ent.pull_drop (is := [6, 0]) rfl | exact Ent.pull_drop (is := [6, 1]) rfl | exact Ent.pull_drop (is := [6, 2]) rfl | exact Ent.pull_drop (is := [6, 3]) rfl | exact Ent.pull_drop (is := [6, 4]) rfl | exact Ent.pull_drop (is := [6, 5]) rfl | exact Ent.pull_drop (is := [6, 6]) rfl | exact Ent.pull_drop (is := [7, 0]) rfl | exact Ent.pull_drop (is := [7, 1]) rfl | exact Ent.pull_drop (is := [7, 2]) rfl | exact Ent.pull_drop (is := [7, 3]) rfl | exact Ent.pull_drop (is := [7, 4]) rfl | exact Ent.pull_drop (is := [7, 5]) rfl | exact Ent.pull_drop (is := [7, 6]) rfl) ?_
        refine RD.OE rfl rfl rfl rfl (.inr rfl) ?_
        refine RD.OP rfl rfl rfl rfl ?_
        refine RD.pp rfl rfl rfl rfl (p_pick_f rfl rfl (by conv => lhs; whnf)) ?_
        refine RD.nil ?_
        refine hK19 _ _ ?_
        refine T.cond_f rfl ?_
        refine T.skip ?_
        refine hK18 _ _ ?_
        -- EFFECTS UNORDERED [0, 9]
        -- EFFECTS UNORDERED [4, 9]
        refine T.regionT (z := 16) (Bs := [A]) (t := .br [(1, .pure), (2, .pure), (3, .pure), (5, .pure), (6, .pure), (7, .pure), (8, .load), (11, .pure), (12, .pure), (13, .pure)] 0 (.br [] 4 (.go [(9, .eff), (10, .eff), (14, .eff), (15, .pure)]) 9 (.go [(4, .eff), (10, .eff), (14, .eff), (15, .pure)])) 9 (.go [(0, .eff), (4, .eff), (10, .eff), (14, .eff), (15, .pure)])) mixed (by kernel_rfl) (by first | exact Ent.refl _ | exact Ent.pull_drop (is := [0]) rfl | exact Ent.pull_drop (is := [1]) rfl | exact Ent.pull_drop (is := [2]) rfl | exact Ent.pull_drop (is := [3]) rfl | exact Ent.pull_drop (is := [4]) rfl | exact Ent.pull_drop (is := [5]) rfl | exact Ent.pull_drop (is := [6]) rfl | exact Ent.pull_drop (is := [7]) rfl) ?_
        refine RDT.br ?_
        refine RD.pp rfl rfl rfl rfl (p_move rfl (by conv => lhs; whnf)) ?_
        refine RD.pp rfl rfl rfl rfl (p_move rfl (by conv => lhs; whnf)) ?_
        refine RD.pp rfl rfl rfl rfl (run_sliceAny (l := 0) (h := k) rfl Try.underlying45 ts_54 rfl rfl rfl ⟨by omega, by omega⟩) ?_
        refine RD.pp rfl rfl rfl rfl (p_move rfl (by conv => lhs; whnf)) ?_
        refine RD.pp rfl rfl rfl rfl (p_move rfl (by conv => lhs; whnf)) ?_
        refine RD.pp rfl rfl rfl rfl (by first | exact (p_indexAddrN rfl Try.underlying45 ts_54 rfl rfl (by omega)) | exact (p_indexAddr rfl Try.underlying45 ts_54 rfl rfl (by omega))) ?_
        refine RD.qq rfl rfl rfl rfl (QRun.ent ((Ent.pull_drop (is := [0]) rfl).trans (Ent.cons (hA.trans (view_cells (by omega))) (Ent.refl _))) (q_loadCA (us := ps[i].cells) (j := i * 39) rfl ag_54 ts_54 rfl (i := 0) rfl (by rw [pgs_length (fun x hx => (hfit x hx).ok.pay)]; omega) (pgs_get (fun x hx => (hfit x hx).ok.pay) hi))) (by first | exact Ent.refl _ | exact Ent.pull_drop (is := [1]) rfl | exact Ent.pull_drop (is := [2]) rfl | exact Ent.pull_drop (is := [3]) rfl) ?_
        refine RD.pp rfl rfl rfl rfl (p_move rfl (by conv => lhs; whnf)) ?_
        refine RD.pp rfl rfl rfl rfl (p_move rfl (by conv => lhs; whnf)) ?_
        refine RD.pp rfl rfl rfl rfl (run_sliceAny (l := k) (h := fs.length) rfl Try.underlying45 ts_54 rfl rfl rfl ⟨by omega, by omega⟩) ?_
        refine RD.nil ?_
        refine ⟨?_, ?_⟩
        ·
          refine RD.E rfl rfl rfl rfl (e_buildSlice0 rfl Try.underlying45 ti_54 rfl) (by rintro _ _ ⟨_, rfl, rfl⟩; exact .inl (by first | exact Ent.refl _ | exact Ent.pull_drop (is := [0]) rfl | exact Ent.pull_drop (is := [1]) rfl | exact Ent.pull_drop (is := [2]) rfl | exact Ent.pull_drop (is := [3]) rfl | exact Ent.pull_drop (is := [4]) rfl | exact Ent.pull_drop (is := [5]) rfl | exact Ent.pull_drop (is := [6]) rfl | exact Ent.pull_drop (is := [7]) rfl)) ?_
          rintro _ _ ⟨b63, rfl, rfl⟩
          refine RD.nil ?_
          refine RDT.br ?_
          refine RD.nil ?_
          refine ⟨?_, ?_⟩
          ·
            refine RD.ent (Ent.cons (vec_empty (el := 54) (sz := 39)) (Ent.refl _)) ?_
            refine RD.E rfl rfl rfl rfl (e_append (m := k - 0) rfl Try.underlying45 ni_45 ti_54 rfl rfl (i := 0) rfl (src_sub (v := (.slice q3 fs.length cap3)) (L := fs) (l := 0) (h := k) (i := 1) rfl (fun p hp => (hfit p (List.mem_of_mem_take (hF.sub p hp).1)).ok.pay) (by omega) (by omega)) pgs_all (by omega)) (by rintro _ _ ⟨_, rfl⟩; exact .inl (by first | exact Ent.pull_drop (is := [1]) rfl | exact Ent.pull_drop (is := [2]) rfl | exact Ent.pull_drop (is := [3]) rfl)) ?_
            rintro v67 _ ⟨hv67, rfl⟩
            refine RD.nil ?_
            refine RDT.go ?_
            refine RD.E rfl rfl rfl rfl (e_buildSlice1A rfl Try.underlying45 ti_54 rfl rfl (Pg.cells_length hqf.ok.pay) (by decide)) (by rintro _ _ ⟨_, rfl, rfl⟩; exact .inl (by first | exact Ent.pull_drop (is := [1]) rfl | exact Ent.pull_drop (is := [2]) rfl | exact Ent.pull_drop (is := [3]) rfl)) ?_
            rintro _ _ ⟨b72, rfl, rfl⟩
            refine RD.E rfl rfl rfl rfl (e_append rfl Try.underlying45 ni_45 ti_54 rfl rfl (i := 1) rfl (src_full (i := 0) rfl (Pg.cells_length hqf.ok.pay)) Pg.one (by omega)) (by rintro _ _ ⟨_, rfl⟩; exact .inl (by first | exact Ent.pull_drop (is := [1]) rfl | exact Ent.pull_drop (is := [2]) rfl | exact Ent.pull_drop (is := [3]) rfl)) ?_
            rintro v73 _ ⟨hv73, rfl⟩
            refine RD.E rfl rfl rfl rfl (e_append (m := fs.length - k) rfl Try.underlying45 ni_45 ti_54 rfl rfl (i := 1) rfl (src_sub (v := (.slice q3 fs.length cap3)) (L := fs) (l := k) (h := fs.length) (i := 2) rfl (fun p hp => (hfit p (List.mem_of_mem_take (hF.sub p hp).1)).ok.pay) (by omega) (by omega)) pgs_all (by omega)) (by rintro _ _ ⟨_, rfl⟩; exact .inl (by first | exact Ent.pull_drop (is := [1]) rfl | exact Ent.pull_drop (is := [2]) rfl | exact Ent.pull_drop (is := [3]) rfl)) ?_
            rintro v77 _ ⟨hv77, rfl⟩
            refine RD.pp rfl rfl rfl rfl (p_assign rfl (by conv => lhs; whnf)) ?_
            refine RD.nil ?_
            refine hK8 _ _ ?_
            refine T.region (l := [0, 1, 2]) rfl ?_
            refine RN.qq rfl rfl rfl rfl (PRun.q (p_move rfl (by conv => lhs; whnf))) ?_
            refine RN.qq rfl rfl rfl rfl (PRun.q (by first | exact (p_addN (b := 1) rfl rfl rfl (by omega)) | exact (p_add rfl rfl rfl (by omega)))) ?_
            refine RN.qq rfl rfl rfl rfl (PRun.q (p_assign rfl (by conv => lhs; whnf))) ?_
            refine RN.nil ?_
            refine ⟨(i + 1, (fs.take k ++ [ps[i]]) ++ fs.drop k, v77), ⟨by omega, by show ((fs.take k ++ [ps[i]]) ++ fs.drop k).length ≤ i + 1; rw [firsts_len hkf]; omega, firsts_new hi hF hval hkf hbel (fun h => by omega), hv77⟩, (by show _ - (i + 1) < _ - i; omega), (LiveIs.cons rfl (LiveIs.cons rfl (LiveIs.cons rfl LiveIs.nil))), ?_⟩
            refine (Ent.pull_drop (is := [1, 2, 2]) rfl).trans (Ent.cons (vec_same (by rw [firsts_len hkf]; omega) (firsts_pgs hkf)) (Ent.refl _))
          ·
            refine RD.E rfl rfl rfl rfl (e_buildSlice1A rfl Try.underlying45 ti_54 rfl rfl (Pg.cells_length hqf.ok.pay) (by decide)) (by rintro _ _ ⟨_, rfl, rfl⟩; exact .inl (by first | exact Ent.pull_drop (is := [1]) rfl | exact Ent.pull_drop (is := [2]) rfl | exact Ent.pull_drop (is := [3]) rfl)) ?_
            rintro _ _ ⟨b72, rfl, rfl⟩
            refine RD.nil ?_
            refine RDT.go ?_
            refine RD.ent (Ent.at (i := 1) rfl (vec_empty (el := 54) (sz := 39))) ?_
            refine RD.E rfl rfl rfl rfl (e_append (m := k - 0) rfl Try.underlying45 ni_45 ti_54 rfl rfl (i := 1) rfl (src_sub (v := (.slice q3 fs.length cap3)) (L := fs) (l := 0) (h := k) (i := 2) rfl (fun p hp => (hfit p (List.mem_of_mem_take (hF.sub p hp).1)).ok.pay) (by omega) (by omega)) pgs_all (by omega)) (by rintro _ _ ⟨_, rfl⟩; exact .inl (by first | exact Ent.pull_drop (is := [1]) rfl | exact Ent.pull_drop (is := [2]) rfl | exact Ent.pull_drop (is := [3]) rfl)) ?_
            rintro v67 _ ⟨hv67, rfl⟩
            refine RD.E rfl rfl rfl rfl (e_append rfl Try.underlying45 ni_45 ti_54 rfl rfl (i := 1) rfl (src_full (i := 0) rfl (Pg.cells_length hqf.ok.pay)) Pg.one (by omega)) (by rintro _ _ ⟨_, rfl⟩; exact .inl (by first | exact Ent.pull_drop (is := [1]) rfl | exact Ent.pull_drop (is := [2]) rfl | exact Ent.pull_drop (is := [3]) rfl)) ?_
            rintro v73 _ ⟨hv73, rfl⟩
            refine RD.E rfl rfl rfl rfl (e_append (m := fs.length - k) rfl Try.underlying45 ni_45 ti_54 rfl rfl (i := 1) rfl (src_sub (v := (.slice q3 fs.length cap3)) (L := fs) (l := k) (h := fs.length) (i := 2) rfl (fun p hp => (hfit p (List.mem_of_mem_take (hF.sub p hp).1)).ok.pay) (by omega) (by omega)) pgs_all (by omega)) (by rintro _ _ ⟨_, rfl⟩; exact .inl (by first | exact Ent.pull_drop (is := [1]) rfl | exact Ent.pull_drop (is := [2]) rfl | exact Ent.pull_drop (is := [3]) rfl)) ?_
            rintro v77 _ ⟨hv77, rfl⟩
            refine RD.pp rfl rfl rfl rfl (p_assign rfl (by conv => lhs; whnf)) ?_
            refine RD.nil ?_
            refine hK8 _ _ ?_
            refine T.region (l := [0, 1, 2]) rfl ?_
            refine RN.qq rfl rfl rfl rfl (PRun.q (p_move rfl (by conv => lhs; whnf))) ?_
            refine RN.qq rfl rfl rfl rfl (PRun.q (by first | exact (p_addN (b := 1) rfl rfl rfl (by omega)) | exact (p_add rfl rfl rfl (by omega)))) ?_
            refine RN.qq rfl rfl rfl rfl (PRun.q (p_assign rfl (by conv => lhs; whnf))) ?_
            refine RN.nil ?_
            refine ⟨(i + 1, (fs.take k ++ [ps[i]]) ++ fs.drop k, v77), ⟨by omega, by show ((fs.take k ++ [ps[i]]) ++ fs.drop k).length ≤ i + 1; rw [firsts_len hkf]; omega, firsts_new hi hF hval hkf hbel (fun h => by omega), hv77⟩, (by show _ - (i + 1) < _ - i; omega), (LiveIs.cons rfl (LiveIs.cons rfl (LiveIs.cons rfl LiveIs.nil))), ?_⟩
            refine (Ent.pull_drop (is := [1, 2, 2]) rfl).trans (Ent.cons (vec_same (by rw [firsts_len hkf]; omega) (firsts_pgs hkf)) (Ent.refl _))
        ·
          refine RD.E rfl rfl rfl rfl (e_buildSlice1A rfl Try.underlying45 ti_54 rfl rfl (Pg.cells_length hqf.ok.pay) (by decide)) (by rintro _ _ ⟨_, rfl, rfl⟩; exact .inl (by first | exact Ent.pull_drop (is := [1]) rfl | exact Ent.pull_drop (is := [2]) rfl | exact Ent.pull_drop (is := [3]) rfl)) ?_
          rintro _ _ ⟨b72, rfl, rfl⟩
          refine RD.nil ?_
          refine RDT.go ?_
          refine RD.E rfl rfl rfl rfl (e_buildSlice0 rfl Try.underlying45 ti_54 rfl) (by rintro _ _ ⟨_, rfl, rfl⟩; exact .inl (by first | exact Ent.refl _ | exact Ent.pull_drop (is := [0]) rfl | exact Ent.pull_drop (is := [1]) rfl | exact Ent.pull_drop (is := [2]) rfl | exact Ent.pull_drop (is := [3]) rfl | exact Ent.pull_drop (is := [4]) rfl | exact Ent.pull_drop (is := [5]) rfl | exact Ent.pull_drop (is := [6]) rfl | exact Ent.pull_drop (is := [7]) rfl)) ?_
          rintro _ _ ⟨b63, rfl, rfl⟩
          refine RD.ent (Ent.cons (vec_empty (el := 54) (sz := 39)) (Ent.refl _)) ?_
          refine RD.E rfl rfl rfl rfl (e_append (m := k - 0) rfl Try.underlying45 ni_45 ti_54 rfl rfl (i := 0) rfl (src_sub (v := (.slice q3 fs.length cap3)) (L := fs) (l := 0) (h := k) (i := 2) rfl (fun p hp => (hfit p (List.mem_of_mem_take (hF.sub p hp).1)).ok.pay) (by omega) (by omega)) pgs_all (by omega)) (by rintro _ _ ⟨_, rfl⟩; exact .inl (by first | exact Ent.pull_drop (is := [1]) rfl | exact Ent.pull_drop (is := [2]) rfl | exact Ent.pull_drop (is := [3]) rfl)) ?_
          rintro v67 _ ⟨hv67, rfl⟩
          refine RD.E rfl rfl rfl rfl (e_append rfl Try.underlying45 ni_45 ti_54 rfl rfl (i := 0) rfl (src_full (i := 1) rfl (Pg.cells_length hqf.ok.pay)) Pg.one (by omega)) (by rintro _ _ ⟨_, rfl⟩; exact .inl (by first | exact Ent.pull_drop (is := [1]) rfl | exact Ent.pull_drop (is := [2]) rfl | exact Ent.pull_drop (is := [3]) rfl)) ?_
          rintro v73 _ ⟨hv73, rfl⟩
          refine RD.E rfl rfl rfl rfl (e_append (m := fs.length - k) rfl Try.underlying45 ni_45 ti_54 rfl rfl (i := 0) rfl (src_sub (v := (.slice q3 fs.length cap3)) (L := fs) (l := k) (h := fs.length) (i := 2) rfl (fun p hp => (hfit p (List.mem_of_mem_take (hF.sub p hp).1)).ok.pay) (by omega) (by omega)) pgs_all (by omega)) (by rintro _ _ ⟨_, rfl⟩; exact .inl (by first | exact Ent.pull_drop (is := [1]) rfl | exact Ent.pull_drop (is := [2]) rfl | exact Ent.pull_drop (is := [3]) rfl)) ?_
          rintro v77 _ ⟨hv77, rfl⟩
          refine RD.pp rfl rfl rfl rfl (p_assign rfl (by conv => lhs; whnf)) ?_
          refine RD.nil ?_
          refine hK8 _ _ ?_
          refine T.region (l := [0, 1, 2]) rfl ?_
          refine RN.qq rfl rfl rfl rfl (PRun.q (p_move rfl (by conv => lhs; whnf))) ?_
          refine RN.qq rfl rfl rfl rfl (PRun.q (by first | exact (p_addN (b := 1) rfl rfl rfl (by omega)) | exact (p_add rfl rfl rfl (by omega)))) ?_
          refine RN.qq rfl rfl rfl rfl (PRun.q (p_assign rfl (by conv => lhs; whnf))) ?_
          refine RN.nil ?_
          refine ⟨(i + 1, (fs.take k ++ [ps[i]]) ++ fs.drop k, v77), ⟨by omega, by show ((fs.take k ++ [ps[i]]) ++ fs.drop k).length ≤ i + 1; rw [firsts_len hkf]; omega, firsts_new hi hF hval hkf hbel (fun h => by omega), hv77⟩, (by show _ - (i + 1) < _ - i; omega), (LiveIs.cons rfl (LiveIs.cons rfl (LiveIs.cons rfl LiveIs.nil))), ?_⟩
          refine (Ent.pull_drop (is := [0, 2, 2]) rfl).trans (Ent.cons (vec_same (by rw [firsts_len hkf]; omega) (firsts_pgs hkf)) (Ent.refl _))
  ·
    have hi : i = ps.length := by omega
    subst hi
    rw [List.take_length] at hF
    refine T.exit ?_
    refine Post.seq_x ?_
    refine Post.seq_x ?_
    refine Post.block_hit ?_
    refine hK3 _ _ ?_
    refine T.seq fun K20 hK20 => ?_
    refine T.peek (A := view 39 v3 fs.length (pgs fs)) ((Ent.head _ _).trans view_of_vec) view_form ?_
    rintro ⟨q3, cap3, rfl, h3c, h3m, h3f⟩
    refine T.region (l := [0, 1]) rfl ?_
    refine RN.E rfl rfl rfl rfl (by first | exact (e_makeSliceN (n := 0) (c := 0) rfl Try.underlying68 ti_57 rfl rfl rfl (by omega)) | exact (e_makeSlice rfl Try.underlying68 ti_57 rfl rfl rfl (by omega))) ?_
    rintro _ _ ⟨b78, rfl, rfl⟩
    refine RN.qq rfl rfl rfl rfl (PRun.q (p_assign rfl (by conv => lhs; whnf))) ?_
    refine RN.nil ?_
    refine hK20 _ _ ?_
    refine T.seq fun K21 hK21 => ?_
    refine T.seq fun K22 hK22 => ?_
    refine T.ent (Ent.cons (vec_empty (el := 57) (sz := 4)) (Ent.refl _)) ?_
    refine T.region (l := [0]) rfl ?_
    refine RN.qq rfl rfl rfl rfl (PRun.q (p_assign rfl (by conv => lhs; whnf))) ?_
    refine RN.nil ?_
    refine hK22 _ _ ?_
    refine T.block ?_
    refine T.loop (G := Nat × List Sm × Value) (fun ⟨m, rs, v6⟩ => m ≤ fs.length ∧ rs.length ≤ m ∧ rs.map (fun s => (s.key, s.bytes)) = joinKs ps ((fs.map Pg.key).take m) ∧ v6.oneCell' = true ∧ ∀ s ∈ rs, s.v.oneCell' = true) (fun ⟨m, rs, v6⟩ => [(0, .slice q ps.length cap), (3, .slice q3 fs.length cap3), (6, v6), (7, intV m)]) (fun ⟨m, rs, v6⟩ => [vec 57 4 v6 rs.length ((rs.map Sm.cells).flatten), sep (rs.map Sm.own), vec 54 39 (.slice q3 fs.length cap3) fs.length (pgs fs), A, Fr]) (fun ⟨m, rs, v6⟩ => fs.length - m) (0, [], slc b78 0 0 0) ⟨Nat.zero_le _, Nat.le_refl _, rfl, rfl, fun s hs => by cases hs⟩ (LiveIs.cons rfl (LiveIs.cons rfl (LiveIs.cons rfl (LiveIs.cons rfl LiveIs.nil)))) (Ent.cons (Ent.refl _) (Ent.unflat [] _)) ?_
    rintro ⟨m, rs, v6⟩ e23 ⟨hmf, hrl, hrs, hv6, hone⟩
    dsimp only
    refine T.seq fun K24 hK24 => ?_
    refine T.seq fun K25 hK25 => ?_
    refine T.region (l := [0, 1, 2, 3]) rfl ?_
    refine RN.qq rfl rfl rfl rfl (PRun.q (p_move rfl (by conv => lhs; whnf))) ?_
    refine RN.qq rfl rfl rfl rfl (PRun.q (p_move rfl (by conv => lhs; whnf))) ?_
    refine RN.qq rfl rfl rfl rfl (PRun.q (p_len rfl Try.underlying45 rfl)) ?_
    refine RN.qq rfl rfl rfl rfl (PRun.q (p_lss rfl rfl rfl)) ?_
    refine RN.nil ?_
    refine hK25 _ _ ?_
    first | refine T.cond_dec rfl (fun h82 => ?_) (fun h82 => ?_) | refine T.cond rfl (fun h82 => ?_) (fun h82 => ?_)
    ·
      have hm : m < fs.length := by omega
      have hfm := firsts_at hF hm
      obtain ⟨fb, fo, rfl⟩ := h3f (by omega)
      refine T.skip ?_
      refine hK24 _ _ ?_
      refine T.seq fun K26 hK26 => ?_
      refine T.block ?_
      refine T.seq fun K27 hK27 => ?_
      refine T.region (l := [0, 1, 2, 3, 4, 5, 6, 7, 8, 9, 10, 11]) rfl ?_
      refine RN.qq rfl rfl rfl rfl (PRun.q (p_move rfl (by conv => lhs; whnf))) ?_
      refine RN.qq rfl rfl rfl rfl (PRun.q (p_move rfl (by conv => lhs; whnf))) ?_
      refine RN.qq rfl rfl rfl rfl (PRun.q (p_move rfl (by conv => lhs; whnf))) ?_
      refine RN.qq rfl rfl rfl rfl (PRun.q (by first | exact (p_indexAddrN rfl Try.underlying45 ts_54 rfl rfl (by omega)) | exact (p_indexAddr rfl Try.underlying45 ts_54 rfl rfl (by omega)))) ?_
      refine RN.qq rfl rfl rfl rfl (QRun.ent ((Ent.pull_drop (is := [2]) rfl).trans (Ent.cons (view_of_vec.trans (view_cells (by omega))) (Ent.refl _))) (q_loadCA (us := fs[m].cells) (j := m * 39) rfl ag_54 ts_54 rfl (i := 0) rfl (by rw [pgs_length (fun p hp => (hfit p (hF.sub p hp).1).ok.pay)]; omega) (pgs_get (fun p hp => (hfit p (hF.sub p hp).1).ok.pay) hm))) ?_
      refine RN.C [3] rfl rfl rfl rfl (c_call rfl rfl) (RWhole_spec A (.slice q ps.length cap) ps fs[m] hA hfit hfm.1 hfm.2 hlen) rfl ?_
      rintro _ _ ⟨_, rfl, hx91, ⟨xq, xn, xc, rfl⟩, rfl⟩
      refine RN.qq rfl rfl rfl rfl (PRun.q (p_move rfl (by conv => lhs; whnf))) ?_
      refine RN.qq rfl rfl rfl rfl (PRun.q (p_extract rfl rfl rfl)) ?_
      refine RN.qq rfl rfl rfl rfl (PRun.q (p_extract rfl rfl rfl)) ?_
      refine RN.E rfl rfl rfl rfl (e_alloc rfl ti_57) ?_
      rintro _ _ ⟨b8, rfl, rfl⟩
      refine RN.EN rfl rfl rfl (e_storeA (vs := (strm fs[m].kind fs[m].epoch fs[m].group (.slice xq xn xc))) rfl ts_57 rfl rfl rfl (Sm.one rfl (k := ⟨fs[m].kind, fs[m].epoch, fs[m].group⟩)) (i := 0) rfl (by show 0 + 4 ≤ 4; omega)) ?_
      rintro _ _ ⟨rfl, rfl⟩
      simp only [setN]
      rw [lay_four rfl rfl]
      refine RN.qq rfl rfl rfl rfl (PRun.q (p_assign rfl (by conv => lhs; whnf))) ?_
      refine RN.nil ?_
      refine hK27 _ _ ?_
      refine T.seq fun K28 hK28 => ?_
      refine T.region (l := [0]) rfl ?_
      refine RN.qq rfl rfl rfl rfl (PRun.q (p_move rfl (by conv => lhs; whnf))) ?_
      refine RN.nil ?_
      refine hK28 _ _ ?_
      first | refine T.cond_dec rfl (fun h94 => ?_) (fun h94 => ?_) | refine T.cond rfl (fun h94 => ?_) (fun h94 => ?_)
      ·
        obtain ⟨bs, hjr⟩ := Option.isSome_iff_exists.1 h94
        rw [hjr]
        refine T.region (l := [0, 1, 2, 3, 4]) rfl ?_
        refine RN.qq rfl rfl rfl rfl (PRun.q (p_move rfl (by conv => lhs; whnf))) ?_
        refine RN.qq rfl rfl rfl rfl (q_loadA (vs := (strm fs[m].kind fs[m].epoch fs[m].group (.slice xq xn xc))) rfl ag_57 ts_57 rfl (i := 0) rfl (by show 0 + 4 ≤ 4; omega) rfl) ?_
        refine RN.E rfl rfl rfl rfl (e_buildSlice1A rfl Try.underlying68 ti_57 rfl rfl rfl (by decide)) ?_
        rintro _ _ ⟨b97, rfl, rfl⟩
        refine RN.E rfl rfl rfl rfl (e_append rfl Try.underlying68 ni_68 ti_57 rfl rfl (i := 4) rfl (src_full (i := 0) rfl rfl) (Sm.one rfl (k := ⟨fs[m].kind, fs[m].epoch, fs[m].group⟩)) (by omega)) ?_
        rintro v98 _ ⟨hv98, rfl⟩
        refine RN.qq rfl rfl rfl rfl (PRun.q (p_assign rfl (by conv => lhs; whnf))) ?_
        refine RN.nil ?_
        refine hK26 _ _ ?_
        refine T.region (l := [0, 1, 2]) rfl ?_
        refine RN.qq rfl rfl rfl rfl (PRun.q (p_move rfl (by conv => lhs; whnf))) ?_
        refine RN.qq rfl rfl rfl rfl (PRun.q (by first | exact (p_addN (b := 1) rfl rfl rfl (by omega)) | exact (p_add rfl rfl rfl (by omega)))) ?_
        refine RN.qq rfl rfl rfl rfl (PRun.q (p_assign rfl (by conv => lhs; whnf))) ?_
        refine RN.nil ?_
        refine ⟨(m + 1, rs ++ [(⟨fs[m].key, .slice xq xn xc, bs⟩ : Sm)], v98), ⟨by omega, by show (rs ++ [(⟨fs[m].key, .slice xq xn xc, bs⟩ : Sm)]).length ≤ m + 1; rw [List.length_append, List.length_singleton]; omega, rjoin_push hm hrs hjr, hv98, sm_all hone rfl⟩, (by show _ - (m + 1) < _ - m; omega), (LiveIs.cons rfl (LiveIs.cons rfl (LiveIs.cons rfl (LiveIs.cons rfl LiveIs.nil)))), ?_⟩
        refine (Ent.pull_drop (is := [4, 2, 3, 3, 2, 2]) rfl).trans (Ent.cons (vec_same (by rw [List.length_append]; rfl) (by rw [List.map_append, List.flatten_append]; simp; rfl)) (sm_push (s := (⟨fs[m].key, .slice xq xn xc, bs⟩ : Sm))))
      ·
        have hjr : joinR ps fs[m].key = none := by simpa using h94
        refine T.skip ?_
        refine hK26 _ _ ?_
        refine T.region (l := [0, 1, 2]) rfl ?_
        refine RN.qq rfl rfl rfl rfl (PRun.q (p_move rfl (by conv => lhs; whnf))) ?_
        refine RN.qq rfl rfl rfl rfl (PRun.q (by first | exact (p_addN (b := 1) rfl rfl rfl (by omega)) | exact (p_add rfl rfl rfl (by omega)))) ?_
        refine RN.qq rfl rfl rfl rfl (PRun.q (p_assign rfl (by conv => lhs; whnf))) ?_
        refine RN.nil ?_
        refine ⟨(m + 1, rs, v6), ⟨by omega, by show rs.length ≤ m + 1; omega, rjoin_skip hm hrs hjr, hv6, hone⟩, (by show _ - (m + 1) < _ - m; omega), (LiveIs.cons rfl (LiveIs.cons rfl (LiveIs.cons rfl (LiveIs.cons rfl LiveIs.nil)))), ?_⟩
        exact Ent.pull_drop (is := [3, 3, 3, 2, 2]) rfl
    ·
      have hm : m = fs.length := by omega
      subst hm
      rw [List.take_of_length_le (by rw [List.length_map]; exact Nat.le_refl _)] at hrs
      refine T.exit ?_
      refine Post.seq_x ?_
      refine Post.seq_x ?_
      refine Post.block_hit ?_
      refine hK21 _ _ ?_
      refine T.seq fun K29 hK29 => ?_
      refine T.region (l := [0, 1]) rfl ?_
      refine RN.qq rfl rfl rfl rfl (PRun.q (p_move rfl (by conv => lhs; whnf))) ?_
      refine RN.qq rfl rfl rfl rfl (PRun.q (p_assign rfl (by conv => lhs; whnf))) ?_
      refine RN.nil ?_
      refine hK29 _ _ ?_
      refine T.ret ?_
      refine bodyQ_ret [vec 57 4 v6 rs.length ((rs.map Sm.cells).flatten), sep (rs.map Sm.own), A] (RetRun.tmp RetRun.nil) ⟨fs.map Pg.key, rs, firsts_keys hF, hrs, hv6, hone, rfl⟩ (Ent.pull_drop (is := [0, 0, 1, 1]) rfl)

end Go.Proofs.Yticfabhcfdmbjaa
