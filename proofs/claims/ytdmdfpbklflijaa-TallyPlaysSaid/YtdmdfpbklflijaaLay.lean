/- The library's contracts that are laid at this program. -/
import Derived.Shelf.Strings.Builder1
import Derived.Shelf.Strings.Builder2
import Derived.Shelf.Strings.BuilderF
import Derived.Shelf.Strings.Prefix
import Derived.Shelf.Bits.Mul64
import Derived.Shelf.Strings.Repeat
import Derived.Ground.Names2Prog
import Derived.Shelf.Slices.SearchI
import Derived.Test.YtdmdfpbklflijaaProg
set_option linter.unusedVariables false
namespace Go.Proofs
open Go.Shelf
def Try.lays105_ren : Go.Shelf.Ren := ⟨fun | 105 => 109 | 212 => 125 | 99 => 126 | 165 => 127 | 166 => 111 | 170 => 128 | 169 => 112 | 263 => 135 | 264 => 136 | 206 => 137 | 240 => 132 | 241 => 138 | 276 => 140 | 277 => 143 | n => n, fun | 9 => 9 | 3 => 3 | 4 => 4 | 20 => 20 | 0 => 0 | 46 => 138 | 109 => 174 | 5 => 5 | 72 => 159 | 76 => 162 | 51 => 150 | 146 => 187 | 53 => 105 | 148 => 189 | 70 => 157 | 37 => 49 | 75 => 161 | 127 => 186 | 164 => 192 | 80 => 43 | n => n, fun | n => n⟩
theorem Try.lays105 : Go.Proofs.Lays.n105 Try.prog Try.lays105_ren := {
  mixed := by kernel_rfl
  f99 := Try.func126.trans (congrArg some (by kernel_rfl))
  f105 := Try.func109.trans (congrArg some (by kernel_rfl))
  f165 := Try.func127.trans (congrArg some (by kernel_rfl))
  f166 := Try.func111.trans (congrArg some (by kernel_rfl))
  f169 := Try.func112.trans (congrArg some (by kernel_rfl))
  f170 := Try.func128.trans (congrArg some (by kernel_rfl))
  f206 := Try.func137.trans (congrArg some (by kernel_rfl))
  f212 := Try.func125.trans (congrArg some (by kernel_rfl))
  f240 := Try.func132.trans (congrArg some (by kernel_rfl))
  f241 := Try.func138.trans (congrArg some (by kernel_rfl))
  f263 := Try.func135.trans (congrArg some (by kernel_rfl))
  f264 := Try.func136.trans (congrArg some (by kernel_rfl))
  f276 := Try.func140.trans (congrArg some (by kernel_rfl))
  f277 := Try.func143.trans (congrArg some (by kernel_rfl))
  t0 := Try.underlying0
  a0 := Try.isAgg0
  z0 := Try.sizeOf0
  v0 := Try.zeroValue0
  t3 := Try.underlying3
  a3 := Try.isAgg3
  z3 := Try.sizeOf3
  v3 := Try.zeroValue3
  t4 := Try.underlying4
  a4 := Try.isAgg4
  z4 := Try.sizeOf4
  v4 := Try.zeroValue4
  t5 := Try.underlying5
  a5 := Try.isAgg5
  z5 := Try.sizeOf5
  v5 := Try.zeroValue5
  t9 := Try.underlying9
  a9 := Try.isAgg9
  z9 := Try.sizeOf9
  v9 := Try.zeroValue9
  t20 := Try.underlying20
  a20 := Try.isAgg20
  z20 := Try.sizeOf20
  v20 := Try.zeroValue20
  t37 := Try.underlying49
  a37 := Try.isAgg49
  z37 := Try.sizeOf49
  v37 := Try.zeroValue49
  t46 := Try.underlying138
  a46 := Try.isAgg138
  z46 := Try.sizeOf138
  v46 := Try.zeroValue138
  t51 := Try.underlying150
  a51 := Try.isAgg150
  z51 := Try.sizeOf150
  v51 := Try.zeroValue150
  t53 := Try.underlying105
  a53 := Try.isAgg105
  z53 := Try.sizeOf105
  v53 := Try.zeroValue105
  t70 := Try.underlying157
  a70 := Try.isAgg157
  z70 := Try.sizeOf157
  v70 := Try.zeroValue157
  t72 := Try.underlying159
  a72 := Try.isAgg159
  z72 := Try.sizeOf159
  v72 := Try.zeroValue159
  t75 := Try.underlying161
  a75 := Try.isAgg161
  z75 := Try.sizeOf161
  v75 := Try.zeroValue161
  t76 := Try.underlying162
  a76 := Try.isAgg162
  z76 := Try.sizeOf162
  v76 := Try.zeroValue162
  t109 := Try.underlying174
  a109 := Try.isAgg174
  z109 := Try.sizeOf174
  v109 := Try.zeroValue174
  t127 := Try.underlying186
  a127 := Try.isAgg186
  z127 := Try.sizeOf186
  v127 := Try.zeroValue186
  t146 := Try.underlying187
  a146 := Try.isAgg187
  z146 := Try.sizeOf187
  v146 := Try.zeroValue187
  t148 := Try.underlying189
  a148 := Try.isAgg189
  z148 := Try.sizeOf189
  v148 := Try.zeroValue189
  t164 := Try.underlying192
  a164 := Try.isAgg192
  z164 := Try.sizeOf192
  v164 := Try.zeroValue192 }
theorem Try.Builder_Extra_105 : Builder.Extra Try.prog Try.lays105_ren := {
  sizeBuilder := by kernel_rfl
  liesBuilder := by kernel_rfl
  t5 := Try.underlying5
  a5 := Try.isAgg5
  z5 := Try.sizeOf5
  v5 := Try.zeroValue5
  infoByte := by kernel_rfl
  cellsByte := by kernel_rfl
  sizeByte := by kernel_rfl
  neB5 := by decide }
open Go.RowKit Go.Lib in
/-- **strings.Repeat: count ≥ 0, the result within one allocation: count copies of s.** (LAID: no walk: one application.) -/
theorem Try.strings_Repeat (s : ByteArray) (c : Nat) (w : World) (hc : c ≤ 9223372036854775807) (hlen : s.size * c ≤ 140737488355328) :
    Calls Try.prog 109 #[.string s, .int .i64 c] w fun e w' => e = .returned (.string ⟨(Lib.repeatL s.data.toList c).toArray⟩) ∧ Below w.heap.size w w' := Any.strings_Repeat Try.lays105 Try.Builder_Extra_105 s c w hc hlen
end Go.Proofs
