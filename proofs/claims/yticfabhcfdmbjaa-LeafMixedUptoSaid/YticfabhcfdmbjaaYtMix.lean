/-
  Rows of four cells an element, and what LeafMixed's script holds. It proves nothing of the program by itself.
-/
import Derived.Test.YticfabhcfdmbjaaYtChg
import Derived.Test.YticfabhcfdmbjaaModelW
set_option linter.unusedVariables false
set_option linter.unusedSimpArgs false
namespace Go.Mo
open Go Go.Sl
theorem flat_len4 {α : Type} {f : α → List Value} (hf : ∀ x, (f x).length = 4) : ∀ (l : List α), ((l.map f).flatten).length = l.length * 4
  | [] => rfl
  | x :: l => by rw [List.map_cons, List.flatten_cons, List.length_append, hf, flat_len4 hf l, List.length_cons]; omega
theorem flat_drop4 {α : Type} {f : α → List Value} (hf : ∀ x, (f x).length = 4) : ∀ (l : List α) (i : Nat), ((l.map f).flatten).drop (i * 4) = ((l.drop i).map f).flatten
  | [], i => by simp
  | x :: l, 0 => by simp
  | x :: l, i + 1 => by
    rw [List.drop_succ_cons, ← flat_drop4 hf l i, List.map_cons, List.flatten_cons, List.drop_append, List.drop_eq_nil_of_le (by rw [hf]; omega), List.nil_append, hf, show (i + 1) * 4 - 4 = i * 4 from by omega]
theorem flat_get4 {α : Type} {f : α → List Value} (hf : ∀ x, (f x).length = 4) {l : List α} {i : Nat} (hi : i < l.length) : (((l.map f).flatten).drop (i * 4)).take 4 = f l[i] := by
  rw [flat_drop4 hf, List.drop_eq_getElem_cons hi, List.map_cons, List.flatten_cons, List.take_left' (hf _)]
theorem flat_at4 {α : Type} {f : α → List Value} (hf : ∀ x, (f x).length = 4) {l : List α} {i j : Nat} (hi : i < l.length) (hj : j < 4) : ((l.map f).flatten)[i * 4 + j]? = (f l[i])[j]? := by
  have h := flat_get4 hf hi
  rw [← h, List.getElem?_take, if_pos hj, List.getElem?_drop]
theorem flat_getR {α : Type} {f : α → List Value} (hf : ∀ x, (f x).length = 4) {l : List α} {rest : List Value} {i : Nat} (hi : i < l.length) : (((l.map f).flatten ++ rest).drop (0 + i * 4)).take 4 = f l[i] := by
  have hl := flat_len4 hf l
  rw [Nat.zero_add, List.drop_append_of_le_length (by omega), List.take_append_of_le_length (by rw [List.length_drop]; omega), flat_get4 hf hi]
theorem flat_atR {α : Type} {f : α → List Value} (hf : ∀ x, (f x).length = 4) {l : List α} {rest : List Value} {i j : Nat} (hi : i < l.length) (hj : j < 4) : ((l.map f).flatten ++ rest)[0 + i * 4 + j]? = (f l[i])[j]? := by
  have hl := flat_len4 hf l
  rw [Nat.zero_add, List.getElem?_append_left (by omega), flat_at4 hf hi hj]
/-- A pick. -/
structure Pk where
  o : Int
  i : Int
  f : Int
  v : Int
def Pk.cells (x : Pk) : List Value := [iV x.o, iV x.i, iV x.f, iV x.v]
theorem Pk.four (x : Pk) : x.cells.length = 4 := rfl
theorem Sm.four (x : Sm) : x.cells.length = 4 := rfl
theorem lay_four {z cs : List Value} (h : z.length = 4) (hc : cs.length = 4) : lay z 0 cs = cs := lay_full (by omega)
/-- What a stream that comes in is asked. -/
structure Sm.fit (A : Assn) (s : Sm) : Prop where
  epoch : U32 s.key.epoch
  group : U32 s.key.group
  view : Ent A (view 1 s.v s.bytes.length (s.bytes.map u8V))
  one : s.v.oneCell' = true
theorem Sm.ones {s : Sm} (h : s.v.oneCell' = true) : ∀ u ∈ s.cells, u.oneCell' = true := Sm.one h
theorem same_len {ra rb : List Sm} (h : ra.map (fun s => (s.key, s.bytes)) = rb.map (fun s => (s.key, s.bytes))) : ra.length = rb.length := by
  have := congrArg List.length h
  simpa using this
theorem same_at {ra rb : List Sm} (h : ra.map (fun s => (s.key, s.bytes)) = rb.map (fun s => (s.key, s.bytes))) {i : Nat} (ha : i < ra.length) (hb : i < rb.length) : ra[i].key = rb[i].key ∧ ra[i].bytes = rb[i].bytes := by
  have h1 : (ra.map (fun s => (s.key, s.bytes)))[i]? = (rb.map (fun s => (s.key, s.bytes)))[i]? := by rw [h]
  rw [List.getElem?_map, List.getElem?_map, List.getElem?_eq_getElem ha, List.getElem?_eq_getElem hb] at h1
  simp only [Option.map_some, Option.some.injEq, Prod.mk.injEq] at h1
  exact h1
theorem mem_twice {l : List Pg} (q : Pg) : q ∈ l ↔ q ∈ l ++ l := by simp
theorem mem_turn {l : List Pg} (k : Nat) (q : Pg) : q ∈ l ↔ q ∈ l.drop k ++ l.take k := by
  rw [List.mem_append, or_comm, ← List.mem_append, List.take_append_drop]
theorem src_sub {P : Program} {Hs : List Assn} {v : Value} {i l h el : Nat} {L : List Pg} (hn : nth Hs i = some (vec el 39 v L.length (pgs L))) (hp : ∀ p ∈ L, p.pay.length = 32) (hlh : l ≤ h) (hh : h ≤ L.length) :
    Src P Hs (subSl 39 v l h) (h - l) 39 (pgs ((L.drop l).take (h - l))) := by
  have e := pgs_part (rest := []) hp (a := l) (n := h - l) (by omega)
  rw [List.append_nil] at e
  have h1 : Ent (sep Hs) (sep [view 39 (subSl 39 v l h) (h - l) (pgs ((L.drop l).take (h - l)))]) := by
    rw [← e]
    exact ((Ent.perm (perm_nth hn)).trans (Ent.head _ _)).trans ((view_of_vec.trans (view_sub hlh hh)).trans Ent.one)
  refine Src.ent h1 (src_view (i := 0) rfl ?_)
  rw [pgs_length (fun p hp' => hp p (List.mem_of_mem_drop (List.mem_of_mem_take hp'))), List.length_take, List.length_drop]
  congr 1
  omega
theorem turn_eq {pg : List Pg} {k : Nat} : ([] ++ pgs ((pg.drop k).take (pg.length - k))) ++ pgs ((pg.drop 0).take (k - 0)) = pgs (pg.drop k ++ pg.take k) := by
  rw [List.nil_append, List.take_of_length_le (by rw [List.length_drop]; exact Nat.le_refl _), List.drop_zero, Nat.sub_zero, pgs_append]
theorem own_view {ra : List Sm} {i : Nat} (hi : i < ra.length) : Ent (sep (ra.map Sm.own)) (view 1 ra[i].v ra[i].bytes.length (ra[i].bytes.map u8V)) := by
  have h1 : nth (ra.map Sm.own) i = some (Sm.own ra[i]) := by rw [nth_map, nth_get hi]; rfl
  have h2 : Ent (sep (ra.map Sm.own)) (Sm.own ra[i]) := (Ent.perm (perm_nth h1)).trans (Ent.head _ _)
  exact h2.trans view_of_vec
end Go.Mo
