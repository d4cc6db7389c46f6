/-
  ScriptReads answers true at any text of the bound, and leaves all as it was.
-/
import Derived.Test.YtokbjejbgbdkoaaGreatDoorRows
import Derived.Test.YtokbjejbgbdkoaaGreatDoorGEvS5RT0
import Derived.Test.YtokbjejbgbdkoaaGreatDoorGSrRun
import Derived.Test.YtokbjejbgbdkoaaGreatDoorGSrWit
import Derived.Test.YtokbjejbgbdkoaaGreatDoorGCallsT
import Derived.Test.YtokbjejbgbdkoaaGreatDoorGYrE3
import Derived.ChangeMaps5
import Derived.Lib.LaidU8
import Derived.Deep.DeepWitnessRowRef
set_option linter.unusedVariables false
set_option linter.unusedSimpArgs false
namespace Go.Proofs.YtokbjejbgbdkoaaGreatDoor.scriptReads
open Go Go.ChangeShapes Go.WideShapes Go.ChangeAt Go.RowKit Go.Sl Go.Evl
theorem aw (T1 T5 : Nat) : Ctr Tryz.prog 5 [] ((tabs T1 T5).map Tb.asn) (fun v Ps => v = .bool true ∧ Ps = (tabs T1 T5).map Tb.asn) :=
  closed_tables (p := evPar) evPar_ok (fun b hb => by
    rcases List.mem_cons.1 hb with rfl | hb
    · exact ⟨by show 1 < 8; omega, rel1⟩
    · rw [List.mem_singleton.1 hb]
      exact ⟨by show 5 < 8; omega, rel5⟩) (by show [1, 5].Nodup; decide) (fun K => congrFun (congrFun (congrFun runs T1) T5) K) ⟨Tryz.f5, Tryz.func5, rfl, rfl⟩
theorem own : ownKnob Tryz.prog.godebug = none := by kernel_rfl
theorem laidOut : laidOutB Tryz.prog = true := by kernel_rfl
theorem g1 : Tryz.prog.globalNamed "unicode/utf8.first" = some 1 := by kernel_rfl
theorem g5 : Tryz.prog.globalNamed "internal/strconv.uint64pow10" = some 5 := by kernel_rfl
theorem firstD : Rows.laid_unicode_utf8_first = Lib.firstData := by kernel_rfl
theorem acceptD : (Rows.laid_unicode_utf8_acceptRanges : DataW Unit) = Lib.acceptData := by kernel_rfl
theorem powZ : z5 = Lib.pow10Tab := by decide
theorem u8W {W : World} (h : laidMetH Tryz.prog lay0 W) : Lib.Utf8Tabs 1 2 W := by
  have h1 : laidMet Tryz.prog lay0 W := h
  exact utf8Tabs_of_reads (ρ := lays197_ren) { lays197 with } ⟨by kernel_rfl, by kernel_rfl, by kernel_rfl, by kernel_rfl, by kernel_rfl, by kernel_rfl, by kernel_rfl⟩
    (Lib.laidMet.reads h1 (by rw [← firstD]; show _ ∈ [_, _, _, _, _, _, _]; simp only [List.mem_cons, true_or, or_true]))
    (Lib.laidMet.reads h1 (by rw [← acceptD]; show _ ∈ [_, _, _, _, _, _, _]; simp only [List.mem_cons, true_or, or_true]))
theorem powW {W : World} (h : laidMetH Tryz.prog lay0 W) : Lib.TabIs Tryz.prog W "internal/strconv.uint64pow10" .u64 Lib.pow10Tab := by
  obtain ⟨T1, T5, hg⟩ := tables h
  have h5 : W.heap[5]? = some (.cells cs5.toArray T5 (0, 0)) := hg ⟨5, bd5, T5, cs5⟩ (List.mem_cons_of_mem _ (List.mem_cons_self ..))
  unfold Lib.TabIs World.var?
  rw [g5, Option.bind_some, h5, ← powZ]
  rfl
theorem lt_of_cell {W : World} {g i : Nat} {v : Value} (h : W.cell? ⟨g, i, none⟩ = some v) : g < W.heap.size := by
  rcases Nat.lt_or_ge g W.heap.size with q | q
  · exact q
  · unfold World.cell? at h
    simp [Array.getElem?_eq_none q] at h
theorem glob {W : World} (h : laidMetH Tryz.prog lay0 W) : Glob 1 2 (old W) :=
  ⟨fun W0 L w hs => by
    obtain ⟨h1, h2⟩ := u8W h
    have l1 := lt_of_cell (h1 0 (by omega))
    have l2 := lt_of_cell (h2 0 (by omega)).1
    exact ⟨fun c hc => (World.cell?_of_block (Sat.oldCell hs l1)).trans (h1 c hc), fun i hi => ⟨(World.cell?_of_block (Sat.oldCell hs l2)).trans (h2 i hi).1, (World.cell?_of_block (Sat.oldCell hs l2)).trans (h2 i hi).2⟩⟩⟩
theorem glob2 {W : World} (h : laidMetH Tryz.prog lay0 W) (ho : W.ShapedOpen Tryz.prog) : Glob2 Tryz.prog 0 (old W) :=
  ⟨fun W0 L w hs => by
    obtain ⟨m, hm⟩ := laysM146.s1_3 W ho
    have l0 := lt_of_cell hm
    exact ⟨m, (World.cell?_of_block (Sat.oldCell hs l0)).trans hm⟩,
   fun W0 L w hs => by
    have hp := powW h
    unfold Lib.TabIs World.var? at hp ⊢
    rw [g5, Option.bind_some] at hp ⊢
    have l5 : 5 < W.heap.size := by
      rcases Nat.lt_or_ge 5 W.heap.size with q | q
      · exact q
      · rw [Array.getElem?_eq_none q] at hp; cases hp
    rw [Sat.oldCell hs l5]
    exact hp⟩
theorem awO {W : World} (h : laidMetH Tryz.prog lay0 W) : Ctr Tryz.prog 5 [] [old W] (fun v Ps => v = .bool true ∧ Ps = [old W]) := by
  obtain ⟨T1, T5, hg⟩ := tables h
  have h1 := hg ⟨1, bd1, T1, cs1⟩ (List.mem_cons_self ..)
  have h5 := hg ⟨5, bd5, T5, cs5⟩ (List.mem_cons_of_mem _ (List.mem_cons_self ..))
  refine (Ctr.framed (R := restA W [5, 1]) (aw T1 T5)).mono (old_two h1 h5 (by show (1 : Nat) ≠ 5; decide)) ?_
  rintro v Ps ⟨rfl, rfl⟩
  exact ⟨[old W], ⟨rfl, rfl⟩, two_old h1 h5⟩
theorem reads (os : Os) {H : Type} (enc : TypeId × Value → H) : ∃ places, DataW.whole enc Tryz.prog ((laidWorld os).forCall (fun _ _ => 0) ⟨#[], #[.string ⟨#[]⟩], []⟩).memory Tryz.f3.params.toList Rows.scriptReadsSpec.vars false #[Value.string ⟨#[]⟩].toList 8 = some ([.lit (.string [])], [], places) :=
  ⟨[], by kernel_rfl⟩
set_option maxRecDepth 100000 in
theorem lifted (os : Os) (started : os.Started) (H : Type) (enc : TypeId × Value → H) (F : Stop.Interp) :
    ReturnsInHanded {} Tryz.checked os 3 .any ((Rows.OpenSpec.upto Rows.scriptReadsSpec).preRow enc Tryz.prog Tryz.f3 Rows.scriptReadsUptoRow.domain false Rows.scriptReadsUptoRow.laid) (((Rows.OpenSpec.upto Rows.scriptReadsSpec).at F).post enc Tryz.prog Tryz.f3 false true false false) := by
  obtain ⟨places, hx⟩ := reads os enc
  refine returnsInHanded_of_row (C := Tryz.checked) (s := Rows.OpenSpec.upto Rows.scriptReadsSpec) own started (by kernel_rfl) Tryz.func3
    (witness_row_atRef (enc := enc) (C := Tryz.checked) false (laidWorld os) #[.string ⟨#[]⟩] rfl (by kernel_rfl) (by kernel_rfl) (by kernel_rfl)
      (OpenSpec.preRow_of_cond 8 hx (by kernel_rfl) (fun k hk => by cases hk; kernel_rfl) (by kernel_rfl) (laidWorld_met os _))) ?_
  intro W base args ds gs before hval0 hW _ hcond _ hX hso _
  have hval : ∀ (j : Nat) t v, Tryz.f3.params[j]? = some t → args[j]? = some v → Value.okWide Tryz.prog W .any base t v := hval0
  have hW' := hW
  obtain ⟨p, q, hA0, hV, rfl, hfz, hnd⟩ := hW
  have hA : DataW.TrodAll enc Tryz.prog W 0 (fun _ => true) true Tryz.f3.params.toList args.toList ds p := hA0
  rw [Tryz.params3] at hA hval
  obtain ⟨v0, vs0, d0, ds0, p0, q0, hargs, rfl, rfl, h0, r0⟩ := trodAll_cons hA
  obtain ⟨rfl, rfl, rfl⟩ := trodAll_nil r0
  obtain rfl : args = #[v0] := by cases args; simp_all
  obtain ⟨s, rfl, rfl, rfl, hs⟩ := Go.ChangeMaps.open_string Tryz.underlying9 (hval 0 9 v0 rfl rfl) h0
  obtain ⟨rfl, rfl⟩ := trodVars_none hV
  have hk := of_decide_eq_true (hcond _ rfl)
  have hk2 : s.data.toList.length ≤ 1048576 := by
    simp only [List.append_nil, Rows.uptoBulkAll, Rows.uptoBulk] at hk
    omega
  have hc := Ctr.calls1 W (ScriptReads_walk (old W) (glob hX) (glob2 hX hso) (awO hX) s.data.toList (by omega))
  refine hc.mono fun e W' ⟨he, hb⟩ => ?_
  subst he
  exact ⟨_, rfl, post_law hW' laidOut (by kernel_rfl) rfl rfl Tryz.underlying4 rfl rfl rfl hb⟩
end Go.Proofs.YtokbjejbgbdkoaaGreatDoor.scriptReads
