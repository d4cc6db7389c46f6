/-
  The tables that the row lists, as they lie in a world. It proves nothing of the program by itself.
-/
import Derived.Test.YtokbjejbgbdkoaaDoorRows
import Derived.Test.YtokbjejbgbdkoaaDoorGEv15
import Derived.Lib.LaidTab
import Derived.LaidHandle
import Derived.KernelRfl
set_option linter.unusedVariables false
set_option linter.unusedSimpArgs false
namespace Go.Proofs.YtokbjejbgbdkoaaDoor.scriptWords
open Go Go.Sl Go.Evl
def lay0 : List (String × DataW Unit) := Rows.scriptWordsRow.laid
/-- A tree of values, the first behind k. -/
noncomputable def trOf : List AV → Nat → Tr AV
  | [], _ => .nil
  | v :: r, k => Tr.set (some v) (trOf r (k + 1)) (k + 1)
theorem trOf_get : ∀ (l : List AV) (k i : Nat), (trOf l k).get (i + 1) = if k ≤ i then l[i - k]? else none
  | [], k, i => by
    show (Tr.nil : Tr AV).get (i + 1) = _
    rw [show (Tr.nil : Tr AV).get (i + 1) = none from rfl]
    split <;> simp
  | v :: r, k, i => by
    show (Tr.set (some v) (trOf r (k + 1)) (k + 1)).get (i + 1) = _
    rw [Tr.get_set _ _ _ _ (by omega) (by omega), trOf_get r (k + 1) i]
    by_cases h : i = k
    · subst h
      rw [if_pos rfl, if_pos (Nat.le_refl _), Nat.sub_self]
      rfl
    · rw [if_neg (by omega)]
      by_cases g : k ≤ i
      · rw [if_pos (by omega), if_pos g, show i - k = (i - (k + 1)) + 1 from by omega, List.getElem?_cons_succ]
      · rw [if_neg (by omega), if_neg g]
def z1 : List Int := Go.Pinned.utf8FirstZ.map fun (z : Nat) => (z : Int)
def z5 : List Int := [1, 10, 100, 1000, 10000, 100000, 1000000, 10000000, 100000000, 1000000000, 10000000000, 100000000000, 1000000000000, 10000000000000, 100000000000000, 1000000000000000, 10000000000000000, 100000000000000000, 1000000000000000000, 10000000000000000000]
def cs1 : List Value := z1.map fun z => Value.int .u8 z
def cs5 : List Value := z5.map fun z => Value.int .u64 z
def bd1 : Body := .bs 256 0xf1f1f1f1f1f1f1f1f1f1f1440404043403032303030303030303030303030313020202020202020202020202020202020202020202020202020202020202f1f1f1f1f1f1f1f1f1f1f1f1f1f1f1f1f1f1f1f1f1f1f1f1f1f1f1f1f1f1f1f1f1f1f1f1f1f1f1f1f1f1f1f1f1f1f1f1f1f1f1f1f1f1f1f1f1f1f1f1f1f1f1f1f1f1f0f0f0f0f0f0f0f0f0f0f0f0f0f0f0f0f0f0f0f0f0f0f0f0f0f0f0f0f0f0f0f0f0f0f0f0f0f0f0f0f0f0f0f0f0f0f0f0f0f0f0f0f0f0f0f0f0f0f0f0f0f0f0f0f0f0f0f0f0f0f0f0f0f0f0f0f0f0f0f0f0f0f0f0f0f0f0f0f0f0f0f0f0f0f0f0f0f0f0f0f0f0f0f0f0f0f0f0f0f0f0f0f0f0f0f0f0f0f0f0f0f0f0f0f0f0f0f0
noncomputable def bd5 : Body := .tr 20 (trOf (z5.map fun z => AV.i .u64 z) 0)
noncomputable def tabs (T1 T5 : Nat) : List Tb := [⟨1, bd1, T1, cs1⟩, ⟨5, bd5, T5, cs5⟩]
theorem rel1 : bodyRel mGs bd1 cs1 := show cs1 = (bytesOf 256 0xf1f1f1f1f1f1f1f1f1f1f1440404043403032303030303030303030303030313020202020202020202020202020202020202020202020202020202020202f1f1f1f1f1f1f1f1f1f1f1f1f1f1f1f1f1f1f1f1f1f1f1f1f1f1f1f1f1f1f1f1f1f1f1f1f1f1f1f1f1f1f1f1f1f1f1f1f1f1f1f1f1f1f1f1f1f1f1f1f1f1f1f1f1f1f0f0f0f0f0f0f0f0f0f0f0f0f0f0f0f0f0f0f0f0f0f0f0f0f0f0f0f0f0f0f0f0f0f0f0f0f0f0f0f0f0f0f0f0f0f0f0f0f0f0f0f0f0f0f0f0f0f0f0f0f0f0f0f0f0f0f0f0f0f0f0f0f0f0f0f0f0f0f0f0f0f0f0f0f0f0f0f0f0f0f0f0f0f0f0f0f0f0f0f0f0f0f0f0f0f0f0f0f0f0f0f0f0f0f0f0f0f0f0f0f0f0f0f0f0f0f0f0).map u8V by kernel_rfl
theorem rel5 : bodyRel mGs bd5 cs5 := by
  refine ⟨rfl, fun i hi => ?_, fun i v u h1 h2 => ?_⟩
  · rw [trOf_get, if_pos (Nat.zero_le _)]
    exact List.getElem?_eq_none (by show 20 ≤ i - 0; omega)
  · rw [trOf_get, if_pos (Nat.zero_le _), Nat.sub_zero, List.getElem?_map] at h1
    unfold cs5 at h2
    rw [List.getElem?_map] at h2
    cases hz : z5[i]? with
    | none => rw [hz] at h1; cases h1
    | some z =>
      rw [hz] at h1 h2
      cases h1
      cases h2
      rfl
theorem laid_places {P : Program} {w : World} : ∀ {l : List (String × DataW Unit)} {ps : List MemPlace}, DataW.LaidVars P w l ps → ∀ n d, (n, d) ∈ l → ∃ g t cs fuel p, P.globalNamed n = some g ∧ (P.globals[g]?).map (·.type) = some t ∧ w.var? P n = some cs ∧
    DataW.trod (fun _ => ()) P w 0 (fun _ => true) false fuel t cs.toList = some (d, p) ∧ ∀ x ∈ MemPlace.row ⟨g, 0, none⟩ cs.size, x ∈ ps
  | [], _, _, _, _, hm => by cases hm
  | (n', d') :: r, ps, h, n, d, hm => by
    obtain ⟨g, t, cs, fuel, p, q, h1, h2, h3, h4, h5, rfl⟩ := h
    rcases List.mem_cons.1 hm with e | e
    · cases e
      exact ⟨g, t, cs, fuel, p, h1, h2, h3, h4, fun x hx => by simp [hx]⟩
    · obtain ⟨g, t, cs, fuel, p, h6, h7, h8, h9, h10⟩ := laid_places h5 n d e
      exact ⟨g, t, cs, fuel, p, h6, h7, h8, h9, fun x hx => by simp [h10 x hx]⟩
/-- A listed table of numbers: its block. -/
theorem laid_block {P : Program} {W : World} {l : List (String × DataW Unit)} {n : String} {g t e N : Nat} {k : IntKind} {zs : List Int} (h : laidMet P l W) (hm : (n, Go.Lib.tabData k zs) ∈ l) (hg : P.globalNamed n = some g) (hty : (P.globals[g]?).map (·.type) = some t)
    (ht : P.underlying t = some (.array N e)) (he : P.underlying e = some (.int k)) (hce : P.cellsOf e = 1) (hct : P.cellsOf t = N) (hz : 0 < zs.length) : ∃ T, W.heap[g]? = some (.cells (zs.map fun z => Value.int k z).toArray T (0, 0)) := by
  obtain ⟨ps, hl, _, hc⟩ := h
  obtain ⟨g', t', cs, fuel, p, hg', ht', hv, hd, hp⟩ := laid_places hl n _ hm
  obtain rfl := Option.some.inj (hg.symm.trans hg')
  obtain rfl := Option.some.inj (hty.symm.trans ht')
  have hcs := Go.Lib.cells_of_tab ht he hce hct hd
  have hsz : cs.size = zs.length := by rw [← Array.length_toList, hcs, List.length_map]
  obtain ⟨⟨c, T, hh⟩, _⟩ := hc g 0 (hp _ (by unfold MemPlace.row; rw [hsz]; exact List.mem_map.2 ⟨0, by simpa using hz, rfl⟩))
  have hcc : c = cs := by
    unfold World.var? at hv
    rw [hg, Option.bind_some, hh] at hv
    exact Option.some.inj hv
  subst hcc
  exact ⟨T, by rw [← hcs]; simpa using hh⟩
theorem tab1 : Rows.laid_unicode_utf8_first = Go.Lib.tabData .u8 z1 := by kernel_rfl
theorem tab5 : (Rows.laid_internal_strconv_uint64pow10 : DataW Unit) = Go.Lib.tabData .u64 z5 := by kernel_rfl
theorem tables {W : World} (h : laidMetH Tryd.prog lay0 W) : ∃ T1 T5, ∀ b ∈ tabs T1 T5, W.heap[b.g]? = some b.obj := by
  have h1 : laidMet Tryd.prog lay0 W := h
  obtain ⟨T1, e1⟩ := laid_block (n := "unicode/utf8.first") (k := .u8) (zs := z1) (g := 1) (t := 107) (e := 5) (N := 256) h1 (by rw [← tab1]; show _ ∈ [_, _, _, _, _, _, _]; simp only [List.mem_cons, true_or, or_true]) (by kernel_rfl) (by kernel_rfl) Tryd.underlying107 Tryd.underlying5 (by kernel_rfl) (by kernel_rfl) (by show 0 < z1.length; decide +kernel)
  obtain ⟨T5, e5⟩ := laid_block (n := "internal/strconv.uint64pow10") (k := .u64) (zs := z5) (g := 5) (t := 132) (e := 114) (N := 20) h1 (by rw [← tab5]; show _ ∈ [_, _, _, _, _, _, _]; simp only [List.mem_cons, true_or, or_true]) (by kernel_rfl) (by kernel_rfl) Tryd.underlying132 Tryd.underlying114 (by kernel_rfl) (by kernel_rfl) (by decide)
  refine ⟨T1, T5, fun b hb => ?_⟩
  rcases List.mem_cons.1 hb with rfl | hb
  · exact e1
  · rw [List.mem_singleton.1 hb]
    exact e5
end Go.Proofs.YtokbjejbgbdkoaaDoor.scriptWords
