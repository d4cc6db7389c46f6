/-
  The map of leaf.Join: its keys.
-/
import Derived.Test.YticfabhcfdmbjaaYtL5
import Derived.Test.YticfabhcfdmbjaaModelR
set_option linter.unusedVariables false
set_option linter.unusedSimpArgs false
namespace Go.Proofs.Yticfabhcfdmbjaa
open Go Go.Sl Go.Mo Go.Proofs
theorem kl85 : WideMaps.KeyLaw Try.prog 85 := deep_law (m := 9) (by decide) (by kernel_rfl) (by kernel_rfl) (by kernel_rfl)
theorem zeroIs_of {P : Program} {t : TypeId} {v : Value} (h : (P.info? t).bind (·.zero) = some v) : ZeroIs P t v := by
  obtain ⟨i, h1, h2⟩ := Option.bind_eq_some_iff.1 h
  exact ⟨i, h1, h2⟩
theorem z45 : ZeroIs Try.prog 45 (.slice none 0 0) := zeroIs_of (by kernel_rfl)
theorem lits_i64 {n : Int} (d : Nat) (h : n = 2 ∨ n = 3) : Try.prog.keyLits (d + 1) 3 [.int .i64 n] = some [.int .i64 n] := by
  unfold Program.keyLits
  rw [Try.underlying3]
  have : (Lit.int .i64 n).wf = true := by
    rcases h with rfl | rfl <;> decide
  simp [this]
theorem lits_u32 {n : Int} (d : Nat) (h : U32 n) : Try.prog.keyLits (d + 1) 48 [.int .u32 n] = some [.int .u32 n] := by
  unfold Program.keyLits
  rw [Try.underlying48]
  have : (Lit.int .u32 n).wf = true := by
    unfold U32 at h
    simp [Lit.wf, IntKind.min, IntKind.max, IntKind.signed, IntKind.bits]
    omega
  simp [this]
theorem keyed85 {k : Ky} (h : k.ok) : Keyed Try.prog 85 k.cells := by
  obtain ⟨h1, h2, h3⟩ := h
  have hk : Try.prog.keyType 85 = true := by kernel_rfl
  have hc : Try.prog.cellsOf 85 = 3 := by kernel_rfl
  have c3 : Try.prog.cellsOf 3 = 1 := by kernel_rfl
  have c48 : Try.prog.cellsOf 48 = 1 := by kernel_rfl
  have hf : (Value.agg k.cells.toArray).formed Try.prog 85 = true := formed_agg (by kernel_rfl) (by rw [hc]; rfl)
  have hl : ∃ L, Try.prog.keyLits (Try.prog.types.size + 1) 85 k.cells = some L := by
    obtain ⟨m, hm⟩ : ∃ m, Try.prog.types.size = m + 1 := ⟨Try.prog.types.size - 1, by have : 0 < Try.prog.types.size := of_decide_eq_true (by kernel_rfl); omega⟩
    rw [hm]
    unfold Program.keyLits
    rw [Try.underlying85]
    refine ⟨[.int .i64 k.kind, .int .u32 k.epoch, .int .u32 k.group], ?_⟩
    simp only [hc, Ky.cells, List.length_cons, List.length_nil]
    rw [if_pos ⟨trivial, by decide +kernel⟩]
    simp only [List.mapM_cons, List.mapM_nil, c3, c48, List.drop_zero, List.drop_succ_cons, List.take_succ_cons, List.take_zero, lits_i64 m h1, lits_u32 m h2, lits_u32 m h3]
    rfl
  obtain ⟨L, hL⟩ := hl
  refine ⟨.string (keyBytes L), ?_⟩
  unfold keyOf
  rw [Try.underlying85]
  simp only [hk, hf, Bool.and_self, if_true]
  have : (Value.agg k.cells.toArray).cells.toList = k.cells := by simp [Value.cells]
  rw [this, hL]
  rfl
theorem Ky.one {k : Ky} : ∀ u ∈ k.cells, u.oneCell' = true := by
  intro u hu
  unfold Ky.cells at hu
  simp at hu
  rcases hu with rfl | rfl | rfl <;> rfl
theorem lay_ky {z : List Value} {k : Ky} (h : z.length = 3) : lay z 0 k.cells = k.cells := lay_full (by rw [h]; rfl)
theorem map_key_set {st : List Gr} {j : Nat} {g : Gr} (hj : j < st.length) (hk : st[j].k = g.k) : (st.set j g).map (fun g => g.k.cells) = st.map (fun g => g.k.cells) := by
  rw [List.map_set]
  apply List.ext_getElem?
  intro i
  rw [List.getElem?_set]
  split
  · rename_i e
    subst e
    simp [hj, hk]
  · rfl
theorem key_ok {p : Pg} (h : p.fit) (hv : p.valid) : p.key.ok := ⟨hv, h.epoch, h.group⟩
theorem gr_keyed {qs : List Pg} {st : List Gr} (h : Grouped qs st) (hf : ∀ p ∈ qs, p.fit) : ∀ kv ∈ st.map Gr.kv, Keyed Try.prog 85 kv.1 := by
  intro kv hkv
  obtain ⟨g, hg, rfl⟩ := List.mem_map.1 hkv
  obtain ⟨p, hp, hv, hk⟩ := (h.mem g.k).1 (List.mem_map.2 ⟨g, hg, rfl⟩)
  exact keyed85 (hk ▸ key_ok (hf p hp) hv)
theorem gr_nodup {qs : List Pg} {st : List Gr} (h : Grouped qs st) : ((st.map Gr.kv).map (·.1)).Nodup := by
  have e : (st.map Gr.kv).map (·.1) = (st.map (·.k)).map Ky.cells := by simp [Gr.kv]
  rw [e]
  have h1 := h.nodup
  generalize st.map (·.k) = l at h1
  induction l with
  | nil => exact List.nodup_nil
  | cons a l ih =>
    rw [List.nodup_cons] at h1
    rw [List.map_cons, List.nodup_cons]
    refine ⟨fun hm => ?_, ih h1.2⟩
    obtain ⟨b, hb, e⟩ := List.mem_map.1 hm
    exact h1.1 (Ky.cells_inj e ▸ hb)
theorem gr_none {qs : List Pg} {st : List Gr} (h : Grouped qs st) {k : Ky} (hl : Sl.look (st.map Gr.kv) k.cells = none) : k ∉ st.map (·.k) := by
  intro hm
  obtain ⟨j, hj, e⟩ := List.getElem_of_mem hm
  rw [List.length_map] at hj
  rw [List.getElem_map] at e
  have := look_some (kvs := st.map Gr.kv) (k := k.cells) (j := j) (v := st[j].v) (by rw [List.getElem?_map, List.getElem?_eq_getElem hj, Option.map_some, Gr.kv, e]) (by
    intro i hi kv hkv e2
    have hn := List.pairwise_iff_getElem.1 (gr_nodup h)
    have hil : i < st.length := by omega
    rw [List.getElem?_map, List.getElem?_eq_getElem hil, Option.map_some, Option.some.injEq] at hkv
    apply hn i j (by simpa using hil) (by simpa using hj) hi
    rw [List.getElem_map, List.getElem_map, List.getElem_map, List.getElem_map, hkv, e2, Gr.kv, e])
  rw [hl] at this
  cases this
theorem gr_look {st : List Gr} (hn : ((st.map Gr.kv).map (·.1)).Nodup) {j : Nat} (hj : j < st.length) {k : Ky} (hk : st[j].k = k) : Sl.look (st.map Gr.kv) k.cells = some (j, st[j].v) := by
  refine look_some (by rw [List.getElem?_map, List.getElem?_eq_getElem hj, Option.map_some, Gr.kv, hk]) ?_
  intro i hi kv hkv e2
  have hn := List.pairwise_iff_getElem.1 hn
  have hil : i < st.length := by omega
  rw [List.getElem?_map, List.getElem?_eq_getElem hil, Option.map_some, Option.some.injEq] at hkv
  apply hn i j (by simpa using hil) (by simpa using hj) hi
  rw [List.getElem_map, List.getElem_map, List.getElem_map, List.getElem_map, hkv, e2, Gr.kv, hk]
theorem ky_len {ys : List Ky} {rest : List Value} {m : Nat} (hm : m < ys.length) : 0 + m * 3 + 3 ≤ ((ys.map Ky.cells).flatten ++ rest).length := by
  have h : ((ys.map Ky.cells).flatten).length = ys.length * 3 := by
    clear hm
    induction ys with
    | nil => rfl
    | cons a l ih => rw [List.map_cons, List.flatten_cons, List.length_append, ih, List.length_cons]; show 3 + _ = _; omega
  rw [List.length_append, h]; omega
theorem ky_get {ys : List Ky} {rest : List Value} {m : Nat} (hm : m < ys.length) : (((ys.map Ky.cells).flatten ++ rest).drop (0 + m * 3)).take 3 = ys[m].cells := by
  rw [Nat.zero_add]
  induction ys generalizing m with
  | nil => simp at hm
  | cons a l ih =>
    rw [List.map_cons, List.flatten_cons]
    cases m with
    | zero => rfl
    | succ m =>
      rw [List.append_assoc, List.drop_append, List.drop_eq_nil_of_le (by show 3 ≤ _; omega), List.nil_append]
      have e : (m + 1) * 3 - a.cells.length = m * 3 := by show (m + 1) * 3 - 3 = _; omega
      rw [e]
      exact ih (by simpa using hm)
theorem gr_some {st : List Gr} {k : Ky} {j : Nat} {v : Value} (hl : Sl.look (st.map Gr.kv) k.cells = some (j, v)) : ∃ hj : j < st.length, st[j].k = k ∧ st[j].v = v := by
  have h := look_get hl
  rw [List.getElem?_map] at h
  obtain ⟨g, hg, e⟩ := Option.map_eq_some_iff.1 h
  obtain ⟨hj, hgj⟩ := List.getElem?_eq_some_iff.1 hg
  refine ⟨hj, ?_, ?_⟩
  · rw [hgj]
    exact Ky.cells_inj (congrArg Prod.fst e)
  · rw [hgj]
    exact congrArg Prod.snd e
theorem gr_len {qs : List Pg} {st : List Gr} (h : Grouped qs st) {g : Gr} (hg : g ∈ st) : g.ps.length ≤ qs.length := by
  rw [h.ps g hg]
  exact List.length_filter_le _ _
theorem gr_own {st : List Gr} {j : Nat} (hj : j < st.length) : nth (st.map Gr.own) j = some (vec 54 39 st[j].v st[j].ps.length (pgs st[j].ps)) := by
  rw [nth_map, nth_get hj]; rfl
theorem gr_back {st : List Gr} {j : Nat} {R : List Assn} (hj : j < st.length) : Ent (sep (vec 54 39 st[j].v st[j].ps.length (pgs st[j].ps) :: sep (delN (st.map Gr.own) j) :: R)) (sep (sep (st.map Gr.own) :: R)) := by
  have := Ent.unbor (R := R) (B := vec 54 39 st[j].v st[j].ps.length (pgs st[j].ps)) (gr_own hj)
  rwa [setN_same (gr_own hj)] at this
theorem gr_push {st : List Gr} {g : Gr} {R : List Assn} : Ent (sep (g.own :: sep (st.map Gr.own) :: R)) (sep (sep ((st ++ [g]).map Gr.own) :: R)) := by
  refine (Ent.cons (Ent.refl _) (Ent.flat _ _)).trans ?_
  rw [List.map_append]
  refine (Ent.perm (L := g.own :: (st.map Gr.own ++ R)) (M := st.map Gr.own ++ [g].map Gr.own ++ R) ?_).trans (Ent.unflat _ _)
  have := (List.perm_append_comm (l₁ := [g.own]) (l₂ := st.map Gr.own)).append_right R
  simpa using this
theorem gr_set {st : List Gr} {j : Nat} {g : Gr} {R : List Assn} (hj : j < st.length) : Ent (sep (g.own :: sep (delN (st.map Gr.own) j) :: R)) (sep (sep ((st.set j g).map Gr.own) :: R)) := by
  have := Ent.unbor (R := R) (B := g.own) (gr_own hj)
  rwa [setN_eq, ← List.map_set] at this
end Go.Proofs.Yticfabhcfdmbjaa
