/-
  What the listed variables give, and awake. It proves nothing of the laws by itself.
-/
import Derived.Test.YtokbjejbgbdkoaaDoorRows
import Derived.Test.YtokbjejbgbdkoaaDoorGEvS5DT0
import Derived.Test.YtokbjejbgbdkoaaDoorGSwRun
import Derived.Test.YtokbjejbgbdkoaaDoorGSwWit
import Derived.Test.YtokbjejbgbdkoaaDoorGCallsT
import Derived.Test.YtokbjejbgbdkoaaDoorGYdC4
import Derived.ChangeMaps5
import Derived.Lib.LaidU8
import Derived.Deep.DeepWitnessRowRef
set_option linter.unusedVariables false
set_option linter.unusedSimpArgs false
namespace Go.Proofs.YtokbjejbgbdkoaaDoor.scriptJoins
open Go Go.ChangeShapes Go.WideShapes Go.ChangeAt Go.RowKit Go.Sl Go.Evl scriptWords
theorem aw (T1 T5 : Nat) : Ctr Tryd.prog 7 [] ((tabs T1 T5).map Tb.asn) (fun v Ps => v = .bool true ∧ Ps = (tabs T1 T5).map Tb.asn) :=
  closed_tables (p := evPar) evPar_ok (fun b hb => by
    rcases List.mem_cons.1 hb with rfl | hb
    · exact ⟨by show 1 < 8; omega, rel1⟩
    · rw [List.mem_singleton.1 hb]
      exact ⟨by show 5 < 8; omega, rel5⟩) (by show [1, 5].Nodup; decide) (fun K => congrFun (congrFun (congrFun runs T1) T5) K) ⟨Tryd.f7, Tryd.func7, rfl, rfl⟩
theorem own : ownKnob Tryd.prog.godebug = none := by kernel_rfl
theorem laidOut : laidOutB Tryd.prog = true := by kernel_rfl
theorem g1 : Tryd.prog.globalNamed "unicode/utf8.first" = some 1 := by kernel_rfl
theorem g5 : Tryd.prog.globalNamed "internal/strconv.uint64pow10" = some 5 := by kernel_rfl
theorem firstD : Rows.laid_unicode_utf8_first = Lib.firstData := by kernel_rfl
theorem acceptD : (Rows.laid_unicode_utf8_acceptRanges : DataW Unit) = Lib.acceptData := by kernel_rfl
theorem powZ : z5 = Lib.pow10Tab := by decide
theorem u8W {W : World} (h : laidMetH Tryd.prog lay0 W) : Lib.Utf8Tabs 1 2 W := by
  have h1 : laidMet Tryd.prog lay0 W := h
  exact utf8Tabs_of_reads (ρ := lays197_ren) { lays197 with } ⟨by kernel_rfl, by kernel_rfl, by kernel_rfl, by kernel_rfl, by kernel_rfl, by kernel_rfl, by kernel_rfl⟩
    (Lib.laidMet.reads h1 (by rw [← firstD]; show _ ∈ [_, _, _, _, _, _, _]; simp only [List.mem_cons, true_or, or_true]))
    (Lib.laidMet.reads h1 (by rw [← acceptD]; show _ ∈ [_, _, _, _, _, _, _]; simp only [List.mem_cons, true_or, or_true]))
theorem powW {W : World} (h : laidMetH Tryd.prog lay0 W) : Lib.TabIs Tryd.prog W "internal/strconv.uint64pow10" .u64 Lib.pow10Tab := by
  obtain ⟨T1, T5, hg⟩ := tables h
  have h5 : W.heap[5]? = some (.cells cs5.toArray T5 (0, 0)) := hg ⟨5, bd5, T5, cs5⟩ (List.mem_cons_of_mem _ (List.mem_cons_self ..))
  unfold Lib.TabIs World.var?
  rw [g5, Option.bind_some, h5, ← powZ]
  rfl
theorem lt_of_cell {W : World} {g i : Nat} {v : Value} (h : W.cell? ⟨g, i, none⟩ = some v) : g < W.heap.size := by
  rcases Nat.lt_or_ge g W.heap.size with q | q
  · exact q
  · unfold World.cell? at h
    simp [Array.getElem?_eq_none q] at h
theorem glob {W : World} (h : laidMetH Tryd.prog lay0 W) : Glob 1 2 (old W) :=
  ⟨fun W0 L w hs => by
    obtain ⟨h1, h2⟩ := u8W h
    have l1 := lt_of_cell (h1 0 (by omega))
    have l2 := lt_of_cell (h2 0 (by omega)).1
    exact ⟨fun c hc => (World.cell?_of_block (Sat.oldCell hs l1)).trans (h1 c hc), fun i hi => ⟨(World.cell?_of_block (Sat.oldCell hs l2)).trans (h2 i hi).1, (World.cell?_of_block (Sat.oldCell hs l2)).trans (h2 i hi).2⟩⟩⟩
theorem glob2 {W : World} (h : laidMetH Tryd.prog lay0 W) (ho : W.ShapedOpen Tryd.prog) : Glob2 Tryd.prog 0 (old W) :=
  ⟨fun W0 L w hs => by
    obtain ⟨m, hm⟩ := laysM146.s1_3 W ho
    have l0 := lt_of_cell hm
    exact ⟨m, (World.cell?_of_block (Sat.oldCell hs l0)).trans hm⟩,
   fun W0 L w hs => by
    have hp := powW h
    unfold Lib.TabIs World.var? at hp ⊢
    rw [g5, Option.bind_some] at hp ⊢
    have l5 : 5 < W.heap.size := by
      rcases Nat.lt_or_ge 5 W.heap.size with q | q
      · exact q
      · rw [Array.getElem?_eq_none q] at hp; cases hp
    rw [Sat.oldCell hs l5]
    exact hp⟩
theorem awO {W : World} (h : laidMetH Tryd.prog lay0 W) : Ctr Tryd.prog 7 [] [old W] (fun v Ps => v = .bool true ∧ Ps = [old W]) := by
  obtain ⟨T1, T5, hg⟩ := tables h
  have h1 := hg ⟨1, bd1, T1, cs1⟩ (List.mem_cons_self ..)
  have h5 := hg ⟨5, bd5, T5, cs5⟩ (List.mem_cons_of_mem _ (List.mem_cons_self ..))
  refine (Ctr.framed (R := restA W [5, 1]) (aw T1 T5)).mono (old_two h1 h5 (by show (1 : Nat) ≠ 5; decide)) ?_
  rintro v Ps ⟨rfl, rfl⟩
  exact ⟨[old W], ⟨rfl, rfl⟩, two_old h1 h5⟩
end Go.Proofs.YtokbjejbgbdkoaaDoor.scriptJoins
