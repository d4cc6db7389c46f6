/-
  slices.SortFunc at the keys of leaf.Join, by its contract on the shelf.
-/
import Derived.Test.YticfabhcfdmbjaaSl14
import Derived.Test.YticfabhcfdmbjaaYtL4
import Derived.Test.YticfabhcfdmbjaaYtLay
import Derived.Shelf.SlSortCmp.NoneTotal
set_option linter.unusedVariables false
set_option linter.unusedSimpArgs false
namespace Go.Proofs.Yticfabhcfdmbjaa
open Go Go.Proofs Go.Shelf Go.RowKit Go.Lib Go.Sort
open Go.Sl Go.Mo
theorem Ky.len (x : Ky) : x.cells.length = 3 := rfl
theorem swoKy : SWO (ltOf cmpK) where
  irrefl x := decide_eq_false (fun h => ltK_irrefl x ((cmpK_neg x x).1 h))
  trans x y z h1 h2 := decide_eq_true ((cmpK_neg x z).2 (ltK_trans ((cmpK_neg x y).1 (of_decide_eq_true h1)) ((cmpK_neg y z).1 (of_decide_eq_true h2))))
  ntrans x y z h1 h2 := by
    have g1 := of_decide_eq_false h1
    have g2 := of_decide_eq_false h2
    rw [cmpK_neg] at g1 g2
    refine decide_eq_false (fun h => ?_)
    rw [cmpK_neg] at h
    unfold ltK at *
    omega
theorem Sort_spec (b c : Nat) (xs : List Ky) (rest : List Value) (hx : xs.length ≤ 65536) : Ctr Try.prog 39 [slc b 0 xs.length c, .func (.func 40) #[] #[]] [row b 85 ((xs.map Ky.cells).flatten ++ rest)]
    (fun v Ps => v = .tuple #[] ∧ ∃ ys : List Ky, ys.Perm xs ∧ (∀ i j (hi : i < j) (hj : j < ys.length), ltOf cmpK ys[j] (ys[i]'(by omega)) = false) ∧ Ps = [row b 85 ((ys.map Ky.cells).flatten ++ rest)]) := by
  have eg : ∀ args w, (callFunc 40 args).run Try.prog w = .ok (.enter 40 args) w := enters_of Try.func40 (by kernel_rfl) rfl
  refine Ctr.ofSort (k := 3) Ky.len (by decide) ⟨_, Try.func39, by kernel_rfl, by kernel_rfl⟩ xs rest (fun w hH hb => ?_)
  have hcmp : CmpLays Try.prog 40 #[] Ky.cells 3 cmpK b 0 xs.toArray.size w := fun m os dk _ x y => Ctr.grow (Clo_spec x y) _
  have h := AnyQ.slices_SortFunc sortKy 3 (fun w => run_isAgg_yes ag_85) (fun w => run_sizeOf' ts_85) Ky.cells Ky.len (fun x v hv => by
    unfold Ky.cells at hv
    simp at hv
    rcases hv with rfl | rfl | rfl <;> rfl) cmpK swoKy 40 #[] b 0 c xs.toArray w eg hcmp hH hb (by simp; omega)
  change Calls Try.prog 39 _ _ _ at h
  exact h
end Go.Proofs.Yticfabhcfdmbjaa
namespace Go.Proofs.Yticfabhcfdmbjaa
open Go Go.Proofs Go.Sl Go.Mo Go.Sort
theorem SortV_spec (kv : Value) (xs : List Ky) (hx : xs.length ≤ 65536) : Ctr Try.prog 39 [kv, .func (.func 40) #[] #[]] [vec 85 3 kv xs.length ((xs.map Ky.cells).flatten)]
    (fun v Ps => v = .tuple #[] ∧ ∃ ys : List Ky, ys.Perm xs ∧ (∀ i j (hi : i < j) (hj : j < ys.length), ¬ ltK ys[j] (ys[i]'(by omega))) ∧ Ps = [vec 85 3 kv ys.length ((ys.map Ky.cells).flatten)]) := by
  refine ⟨⟨_, Try.func39, by kernel_rfl, by kernel_rfl⟩, fun W0 Fr w hs => ?_⟩
  have hs0 := hs
  obtain ⟨kk, y, hy, f1, f2, dj, rfl, ⟨h1, hc⟩, hl⟩ := hs0
  rcases hc with ⟨rfl, hn⟩ | ⟨b, cap, rest, rfl, h2, h3, h4, h5⟩
  · have hx0 : xs = [] := List.length_eq_zero_iff.1 hn
    subst hx0
    have h := AnyF.slices_SortFunc_none sortKy none 0 (.func (.func 40) #[] #[]) w
    change Calls Try.prog 39 _ _ _ at h
    refine h.mono fun e w' ⟨he, hw⟩ => ?_
    subst hw
    exact ⟨_, _, he, ⟨rfl, [], List.Perm.refl _, fun i j hi hj => by simp at hj, rfl⟩, hs⟩
  · have hs2 : Sat W0 (sep ([row b 85 ((xs.map Ky.cells).flatten ++ rest)] ++ [Fr])) w := ⟨kk, _, hy, f1, f2, dj, rfl, h5, hl⟩
    refine ((Sort_spec b cap xs rest hx).2 W0 Fr w hs2).mono fun e w' ⟨v, Ps, he, ⟨hv, ys, hp, hso, hPs⟩, hs3⟩ => ?_
    subst hPs hv
    have hyl : ys.length = xs.length := hp.length_eq
    refine ⟨_, _, he, ⟨rfl, ys, hp, fun i j hi hj hlt => ?_, rfl⟩, hs3.mono (Ent.append (L := [row b 85 ((ys.map Ky.cells).flatten ++ rest)]) (Ent.cons ?_ (Ent.refl _)) (Ent.refl _))⟩
    · have h6 := hso i j hi hj
      unfold ltOf at h6
      exact of_decide_eq_false h6 ((cmpK_neg _ _).2 hlt)
    · have hl2 : ((ys.map Ky.cells).flatten).length = ys.length * 3 := flat_length' Ky.len ys
      have hl3 : ((xs.map Ky.cells).flatten).length = xs.length * 3 := flat_length' Ky.len xs
      rw [← hyl]
      exact vec_of_row hl2 (by omega) h3 (by rw [List.length_append, hl2, hyl, ← hl3, ← List.length_append]; exact h4)
end Go.Proofs.Yticfabhcfdmbjaa
