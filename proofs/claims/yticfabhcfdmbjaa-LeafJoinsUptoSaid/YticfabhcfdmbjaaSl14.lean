/-
  The library's sort of structs by a closure, as a contract of owned memory. It proves nothing of the program by itself.
-/
import Derived.Test.YticfabhcfdmbjaaSl13
import Derived.Shelf.SlSortCmp.WholeK
set_option linter.unusedVariables false
set_option linter.unusedSimpArgs false
namespace Go.Sl
open Go Go.Sort Go.Proofs
theorem flat_get {α : Type} [Inhabited α] {enc : α → List Value} {k : Nat} (hk : ∀ x, (enc x).length = k) (hk0 : 0 < k) : ∀ {xs : List α} {t : Nat}, t < xs.length * k → ((xs.map enc).flatten)[t]? = some ((enc xs[t / k]!)[t % k]!)
  | [], t, h => by simp at h
  | x :: xs, t, h => by
    rw [List.map_cons, List.flatten_cons]
    by_cases ht : t < k
    · rw [List.getElem?_append_left (by rw [hk]; exact ht), Nat.div_eq_of_lt ht, Nat.mod_eq_of_lt ht]
      have h1 : t < (enc x).length := by rw [hk]; exact ht
      simp [h1]
    · rw [List.getElem?_append_right (by rw [hk]; omega), hk]
      have e1 : t / k = (t - k) / k + 1 := by
        rw [Nat.div_eq_sub_div hk0 (by omega)]
      have e2 : t % k = (t - k) % k := by rw [Nat.mod_eq_sub_mod (by omega)]
      rw [flat_get hk hk0 (xs := xs) (t := t - k) (by rw [List.length_cons, Nat.add_mul, Nat.one_mul] at h; omega), e1, e2]
      simp
theorem flat_length' {α : Type} {enc : α → List Value} {k : Nat} (hk : ∀ x, (enc x).length = k) : ∀ (xs : List α), ((xs.map enc).flatten).length = xs.length * k
  | [] => by simp
  | x :: xs => by rw [List.map_cons, List.flatten_cons, List.length_append, hk, flat_length' hk xs, List.length_cons, Nat.add_mul, Nat.one_mul, Nat.add_comm]
theorem flatK_eq {α : Type} [Inhabited α] {enc : α → List Value} {k : Nat} (hk : ∀ x, (enc x).length = k) (hk0 : 0 < k) (xs : List α) : flatK enc k xs.toArray = ((xs.map enc).flatten).toArray := by
  apply Array.ext
  · rw [size_flatK, List.size_toArray, List.size_toArray, flat_length' hk]
  · intro t h1 h2
    rw [size_flatK, List.size_toArray] at h1
    have h3 := get_flatK enc k xs.toArray t (by simpa using h1)
    rw [getElem!_pos _ t (by rw [size_flatK]; simpa using h1)] at h3
    rw [h3]
    have h4 := flat_get hk hk0 h1
    rw [List.getElem?_eq_getElem (by simpa using h2)] at h4
    rw [List.getElem_toArray]
    simpa using (Option.some.inj h4).symm
theorem putCells_all (F : Array Value) (A R : List Value) (hs : F.size = A.length) : putCells id 0 F (A ++ R).toArray = (F.toList ++ R).toArray := by
  apply Array.ext'
  apply List.ext_getElem?
  intro t
  rw [Array.getElem?_toList]
  unfold putCells
  rw [Array.getElem?_mapIdx, List.getElem?_toArray]
  by_cases h : t < F.size
  · rw [List.getElem?_append_left (by omega), List.getElem?_eq_getElem (by omega), Option.map_some, if_pos ⟨Nat.zero_le _, by omega⟩, List.getElem?_append_left (by simpa using h)]
    simp [h]
  · rw [List.getElem?_append_right (by omega), List.getElem?_append_right (by simpa using h), show F.toList.length = A.length from by rw [Array.length_toList, hs]]
    cases hr : R[t - A.length]? with
    | none => rfl
    | some r => rw [Option.map_some, if_neg (by omega)]
theorem Ctr.ofSort {α : Type} [Inhabited α] {P : Program} {f : FuncId} {fv : Value} {enc : α → List Value} {k T b c : Nat} {lt : α → α → Bool} (hk : ∀ x, (enc x).length = k) (hk0 : 0 < k) (hcal : Callable P f) (xs : List α) (rest : List Value)
    (hc : ∀ w, HoldsK enc k w b 0 xs.toArray → b < w.heap.size → Calls P f #[slc b 0 xs.length c, fv] w fun e w' => e = .returned (.tuple #[]) ∧ ∃ d' n os, PermIn 0 xs.length xs.toArray d' ∧ SortedIn lt 0 xs.length d' ∧ w' = sortWorldK enc k w b 0 n d' os) :
    Ctr P f [slc b 0 xs.length c, fv] [row b T ((xs.map enc).flatten ++ rest)] (fun v Ps => v = .tuple #[] ∧ ∃ ys : List α, ys.Perm xs ∧ (∀ i j (hi : i < j) (hj : j < ys.length), lt ys[j] (ys[i]'(by omega)) = false) ∧ Ps = [row b T ((ys.map enc).flatten ++ rest)]) := by
  refine ⟨hcal, fun W0 Fr w hs => ?_⟩
  have hs0 : Sat W0 (sep [row b T ((xs.map enc).flatten ++ rest), Fr]) w := hs
  obtain ⟨lo, hi, hb, hf⟩ := hs0.getRow (i := 0) rfl
  have hblk : b < w.heap.size := by
    rcases Nat.lt_or_ge b w.heap.size with g | g
    · exact g
    · rw [Array.getElem?_eq_none g] at hb; cases hb
  have hH : HoldsK enc k w b 0 xs.toArray := by
    intro t ht
    rw [size_flatK, List.size_toArray] at ht
    have hg := flat_get hk hk0 ht
    have hv : ((xs.map enc).flatten ++ rest)[0 + t]? = some (id (flatK enc k xs.toArray)[t]!) := by
      rw [Nat.zero_add, List.getElem?_append_left (by rw [flat_length' hk]; exact ht), hg, get_flatK _ _ _ _ (by simpa using ht)]
      simp
    exact ⟨hs0.cell (i := 0) rfl hv, hs0.free (i := 0) rfl (by rw [Nat.zero_add, List.length_append, flat_length' hk]; omega)⟩
  refine (hc w hH hblk).mono fun e w' ⟨he, d', n, os, hp, hso, hw⟩ => ?_
  have hd' : d'.size = xs.length := by rw [hp.1, List.size_toArray]
  have hperm : d'.toList.Perm xs := by
    have h3 := hp.2.2
    have e1 : d'.extract 0 xs.length = d' := by rw [← hd']; simp
    have e2 : xs.toArray.extract 0 xs.length = xs.toArray := by
      have : xs.length = xs.toArray.size := by simp
      rw [this]; simp
    rw [e1, e2] at h3
    simpa using h3
  refine ⟨_, _, he, ⟨rfl, d'.toList, hperm, ?_, rfl⟩, ?_⟩
  · intro i j hij hj
    rw [Array.length_toList] at hj
    have h5 := hso i j (Nat.zero_le _) hij (by omega)
    rw [getElem!_pos d' j hj, getElem!_pos d' i (by omega)] at h5
    simpa using h5
  · subst hw
    have hfl : (flatK enc k d') = ((d'.toList.map enc).flatten).toArray := flatK_eq hk hk0 d'.toList
    have hsz : (flatK enc k d').size = ((xs.map enc).flatten).length := by rw [size_flatK, flat_length' hk, hd']
    have s1 : Sat W0 (sep [row b T ((d'.toList.map enc).flatten ++ rest), Fr]) (putRowK enc k (Sort.ahead w n) b 0 d') := by
      refine hs0.rowPut (i := 0) (cs' := (d'.toList.map enc).flatten ++ rest) (lo := lo) (hi := hi) rfl ⟨rfl, rfl, rfl, ?_, Nat.le_add_right _ _⟩ ?_ ?_ ?_
      · show w.heap.size ≤ (putRow id (Sort.ahead w n) b 0 _).heap.size
        rw [Go.Sort.size_putRow]
        exact Nat.le_refl _
      · show (w.heap.modify b _)[b]? = _
        rw [Array.getElem?_modify, if_pos rfl, hb, Option.map_some]
        simp only [onCells]
        rw [putCells_all _ _ _ hsz, hfl]
      · intro i hi2
        apply hf i
        rw [List.length_append, flat_length' hk, Array.length_toList, hd'] at hi2
        rw [List.length_append, flat_length' hk]
        exact hi2
      · intro q hq _
        show (w.heap.modify b _)[q]? = _
        rw [Array.getElem?_modify, if_neg (Ne.symm hq)]
    refine s1.same ⟨rfl, rfl, rfl, ?_, Nat.le_refl _⟩ (fun q hq => ?_)
    · show _ ≤ (_ ++ os).size
      rw [Array.size_append]
      omega
    · show (_ ++ os)[q]? = _
      rw [Array.getElem?_append_left hq]
/-- What a contract that owns nothing says of the whole world. -/
theorem Ctr.grow {P : Program} {f : FuncId} {args : List Value} {v0 : Value} (h : Ctr P f args [] (fun v Ps => v = v0 ∧ Ps = [])) (w : World) :
    Calls P f args.toArray w fun e w' => e = .returned v0 ∧ ∃ q os', w' = Go.Sort.grow (w.drewN q) os' :=
  (h.2 w (old w) w (Sat.ofOld w)).mono fun _ w' ⟨_, _, he, ⟨hv, hp⟩, hs⟩ => by
    subst he hv hp
    have hb := hs.toBelow
    obtain ⟨hk, _⟩ := hs
    refine ⟨rfl, w'.drawn - w.drawn, w'.heap.extract w.heap.size w'.heap.size, ?_⟩
    have hd := hk.drawn
    have hheap : w'.heap = w.heap ++ w'.heap.extract w.heap.size w'.heap.size := by
      apply Array.ext_getElem?
      intro i
      by_cases hi : i < w.heap.size
      · rw [Array.getElem?_append_left hi, hb.block i hi]
      · rw [Array.getElem?_append_right (by omega), Array.getElem?_extract]
        by_cases hi2 : i < w'.heap.size
        · rw [if_pos (by omega)]
          congr 1; omega
        · rw [if_neg (by omega), Array.getElem?_eq_none (by omega)]
    cases w' with
    | mk heap tape drawn os output =>
      have h1 := hk.os
      have h2 := hk.tape
      have h3 := hk.output
      simp only at h1 h2 h3 hd hheap
      simp only [Go.Sort.grow, World.drewN]
      rw [← hheap, h1, h2, h3]
      congr 1
      omega
end Go.Sl
