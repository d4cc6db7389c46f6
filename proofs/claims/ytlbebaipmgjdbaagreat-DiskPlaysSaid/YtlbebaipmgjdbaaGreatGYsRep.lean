/-
 strings.Repeat at this program: its contract off the shelf, laid in plain words by the shelf's tool.
-/
import Derived.Shelf.Strings.Repeat
import Derived.Test.YtlbebaipmgjdbaaGreatProg
import Derived.Test.YtlbebaipmgjdbaaGreatGEv16
import Derived.Test.YtlbebaipmgjdbaaGreatGEvCrc6s
set_option linter.unusedVariables false
set_option linter.unusedSimpArgs false
namespace Go.Proofs
open Go.Shelf
def Tryz.lays105_ren : Go.Shelf.Ren := ⟨fun | 105 => 27 | 212 => 38 | 99 => 39 | 165 => 40 | 166 => 41 | 170 => 42 | 169 => 43 | 263 => 62 | 264 => 63 | 206 => 64 | 240 => 65 | 241 => 66 | 276 => 82 | 277 => 45 | n => n, fun | 9 => 9 | 3 => 3 | 4 => 4 | 20 => 20 | 0 => 0 | 46 => 88 | 109 => 89 | 5 => 5 | 72 => 94 | 76 => 98 | 51 => 80 | 146 => 132 | 53 => 134 | 148 => 135 | 70 => 92 | 37 => 60 | 75 => 97 | 127 => 137 | 164 => 160 | 80 => 42 | n => n, fun | n => n⟩
theorem Tryz.lays105 : Go.Proofs.Lays.n105 Tryz.prog Tryz.lays105_ren := {
 mixed := by kernel_rfl
 f99 := Tryz.func39.trans (congrArg some (by kernel_rfl))
 f105 := Tryz.func27.trans (congrArg some (by kernel_rfl))
 f165 := Tryz.func40.trans (congrArg some (by kernel_rfl))
 f166 := Tryz.func41.trans (congrArg some (by kernel_rfl))
 f169 := Tryz.func43.trans (congrArg some (by kernel_rfl))
 f170 := Tryz.func42.trans (congrArg some (by kernel_rfl))
 f206 := Tryz.func64.trans (congrArg some (by kernel_rfl))
 f212 := Tryz.func38.trans (congrArg some (by kernel_rfl))
 f240 := Tryz.func65.trans (congrArg some (by kernel_rfl))
 f241 := Tryz.func66.trans (congrArg some (by kernel_rfl))
 f263 := Tryz.func62.trans (congrArg some (by kernel_rfl))
 f264 := Tryz.func63.trans (congrArg some (by kernel_rfl))
 f276 := Tryz.func82.trans (congrArg some (by kernel_rfl))
 f277 := Tryz.func45.trans (congrArg some (by kernel_rfl))
 t0 := Tryz.underlying0
 a0 := Tryz.isAgg0
 z0 := Tryz.sizeOf0
 v0 := Tryz.zeroValue0
 t3 := Tryz.underlying3
 a3 := Tryz.isAgg3
 z3 := Tryz.sizeOf3
 v3 := Tryz.zeroValue3
 t4 := Tryz.underlying4
 a4 := Tryz.isAgg4
 z4 := Tryz.sizeOf4
 v4 := Tryz.zeroValue4
 t5 := Tryz.underlying5
 a5 := Tryz.isAgg5
 z5 := Tryz.sizeOf5
 v5 := Tryz.zeroValue5
 t9 := Tryz.underlying9
 a9 := Tryz.isAgg9
 z9 := Tryz.sizeOf9
 v9 := Tryz.zeroValue9
 t20 := Tryz.underlying20
 a20 := Tryz.isAgg20
 z20 := Tryz.sizeOf20
 v20 := Tryz.zeroValue20
 t37 := Tryz.underlying60
 a37 := Tryz.isAgg60
 z37 := Tryz.sizeOf60
 v37 := Tryz.zeroValue60
 t46 := Tryz.underlying88
 a46 := Tryz.isAgg88
 z46 := Tryz.sizeOf88
 v46 := Tryz.zeroValue88
 t51 := Tryz.underlying80
 a51 := Tryz.isAgg80
 z51 := Tryz.sizeOf80
 v51 := Tryz.zeroValue80
 t53 := Tryz.underlying134
 a53 := Tryz.isAgg134
 z53 := Tryz.sizeOf134
 v53 := Tryz.zeroValue134
 t70 := Tryz.underlying92
 a70 := Tryz.isAgg92
 z70 := Tryz.sizeOf92
 v70 := Tryz.zeroValue92
 t72 := Tryz.underlying94
 a72 := Tryz.isAgg94
 z72 := Tryz.sizeOf94
 v72 := Tryz.zeroValue94
 t75 := Tryz.underlying97
 a75 := Tryz.isAgg97
 z75 := Tryz.sizeOf97
 v75 := Tryz.zeroValue97
 t76 := Tryz.underlying98
 a76 := Tryz.isAgg98
 z76 := Tryz.sizeOf98
 v76 := Tryz.zeroValue98
 t109 := Tryz.underlying89
 a109 := Tryz.isAgg89
 z109 := Tryz.sizeOf89
 v109 := Tryz.zeroValue89
 t127 := Tryz.underlying137
 a127 := Tryz.isAgg137
 z127 := Tryz.sizeOf137
 v127 := Tryz.zeroValue137
 t146 := Tryz.underlying132
 a146 := Tryz.isAgg132
 z146 := Tryz.sizeOf132
 v146 := Tryz.zeroValue132
 t148 := Tryz.underlying135
 a148 := Tryz.isAgg135
 z148 := Tryz.sizeOf135
 v148 := Tryz.zeroValue135
 t164 := Tryz.underlying160
 a164 := Tryz.isAgg160
 z164 := Tryz.sizeOf160
 v164 := Tryz.zeroValue160 }
theorem Tryz.Builder_Extra_105 : Builder.Extra Tryz.prog Tryz.lays105_ren := {
 sizeBuilder := by kernel_rfl
 liesBuilder := by kernel_rfl
 t5 := Tryz.underlying5
 a5 := Tryz.isAgg5
 z5 := Tryz.sizeOf5
 v5 := Tryz.zeroValue5
 infoByte := by kernel_rfl
 cellsByte := by kernel_rfl
 sizeByte := by kernel_rfl
 neB5 := by decide }
open Go.RowKit Go.Lib in
/-- **strings.Repeat: count ≥ 0, the result within one allocation: count copies of s.** (LAID: no walk: one application.) -/
theorem Tryz.strings_Repeat (s : ByteArray) (c : Nat) (w : World) (hc : c ≤ 9223372036854775807) (hlen : s.size * c ≤ 140737488355328) :
  Calls Tryz.prog 27 #[.string s, .int .i64 c] w fun e w' => e = .returned (.string ⟨(Lib.repeatL s.data.toList c).toArray⟩) ∧ Below w.heap.size w w' := Any.strings_Repeat Tryz.lays105 Tryz.Builder_Extra_105 s c w hc hlen
end Go.Proofs
namespace Go.Proofs.YtlbebaipmgjdbaaGreat
open Go Go.Sl Go.Evl Go.Proofs
theorem rep_spec : RepSpec Tryz.prog 27 := ⟨⟨_, Tryz.func27, by kernel_rfl, by kernel_rfl⟩, fun s c w h1 h2 => Tryz.strings_Repeat s c w h1 h2⟩
end Go.Proofs.YtlbebaipmgjdbaaGreat
