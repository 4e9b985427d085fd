/- The library's contracts that are laid at this program. -/
import Derived.Shelf.Strings.Builder1
import Derived.Shelf.Strings.Builder2
import Derived.Shelf.Small.Bits
import Derived.Shelf.Strings.BuilderF
import Derived.Shelf.Strconv.Itoa0
import Derived.Shelf.Sort.Plain
import Derived.Shelf.Strings.Prefix
import Derived.Shelf.Bits.Mul64
import Derived.Shelf.Strings.Repeat
import Derived.Ground.Names2Prog
import Derived.Shelf.Slices.SearchI
import Derived.Shelf.Slices.In.SortNone
import Derived.Test.YtgleoeiiiadanaaProg
set_option linter.unusedVariables false
namespace Go.Proofs
open Go.Shelf
def Try.lays105_ren : Go.Shelf.Ren := ⟨fun | 105 => 85 | 212 => 105 | 99 => 106 | 165 => 107 | 166 => 87 | 170 => 108 | 169 => 88 | 263 => 120 | 264 => 121 | 206 => 122 | 240 => 112 | 241 => 123 | 276 => 125 | 277 => 127 | n => n, fun | 9 => 9 | 3 => 3 | 4 => 4 | 20 => 20 | 0 => 0 | 46 => 113 | 109 => 143 | 5 => 5 | 72 => 127 | 76 => 130 | 51 => 118 | 146 => 165 | 53 => 105 | 148 => 167 | 70 => 125 | 37 => 104 | 75 => 129 | 127 => 156 | 164 => 170 | 80 => 85 | n => n, fun | n => n⟩
theorem Try.lays105 : Go.Proofs.Lays.n105 Try.prog Try.lays105_ren := {
  mixed := by kernel_rfl
  f99 := Try.func106.trans (congrArg some (by kernel_rfl))
  f105 := Try.func85.trans (congrArg some (by kernel_rfl))
  f165 := Try.func107.trans (congrArg some (by kernel_rfl))
  f166 := Try.func87.trans (congrArg some (by kernel_rfl))
  f169 := Try.func88.trans (congrArg some (by kernel_rfl))
  f170 := Try.func108.trans (congrArg some (by kernel_rfl))
  f206 := Try.func122.trans (congrArg some (by kernel_rfl))
  f212 := Try.func105.trans (congrArg some (by kernel_rfl))
  f240 := Try.func112.trans (congrArg some (by kernel_rfl))
  f241 := Try.func123.trans (congrArg some (by kernel_rfl))
  f263 := Try.func120.trans (congrArg some (by kernel_rfl))
  f264 := Try.func121.trans (congrArg some (by kernel_rfl))
  f276 := Try.func125.trans (congrArg some (by kernel_rfl))
  f277 := Try.func127.trans (congrArg some (by kernel_rfl))
  t0 := Try.underlying0
  a0 := Try.isAgg0
  z0 := Try.sizeOf0
  v0 := Try.zeroValue0
  t3 := Try.underlying3
  a3 := Try.isAgg3
  z3 := Try.sizeOf3
  v3 := Try.zeroValue3
  t4 := Try.underlying4
  a4 := Try.isAgg4
  z4 := Try.sizeOf4
  v4 := Try.zeroValue4
  t5 := Try.underlying5
  a5 := Try.isAgg5
  z5 := Try.sizeOf5
  v5 := Try.zeroValue5
  t9 := Try.underlying9
  a9 := Try.isAgg9
  z9 := Try.sizeOf9
  v9 := Try.zeroValue9
  t20 := Try.underlying20
  a20 := Try.isAgg20
  z20 := Try.sizeOf20
  v20 := Try.zeroValue20
  t37 := Try.underlying104
  a37 := Try.isAgg104
  z37 := Try.sizeOf104
  v37 := Try.zeroValue104
  t46 := Try.underlying113
  a46 := Try.isAgg113
  z46 := Try.sizeOf113
  v46 := Try.zeroValue113
  t51 := Try.underlying118
  a51 := Try.isAgg118
  z51 := Try.sizeOf118
  v51 := Try.zeroValue118
  t53 := Try.underlying105
  a53 := Try.isAgg105
  z53 := Try.sizeOf105
  v53 := Try.zeroValue105
  t70 := Try.underlying125
  a70 := Try.isAgg125
  z70 := Try.sizeOf125
  v70 := Try.zeroValue125
  t72 := Try.underlying127
  a72 := Try.isAgg127
  z72 := Try.sizeOf127
  v72 := Try.zeroValue127
  t75 := Try.underlying129
  a75 := Try.isAgg129
  z75 := Try.sizeOf129
  v75 := Try.zeroValue129
  t76 := Try.underlying130
  a76 := Try.isAgg130
  z76 := Try.sizeOf130
  v76 := Try.zeroValue130
  t109 := Try.underlying143
  a109 := Try.isAgg143
  z109 := Try.sizeOf143
  v109 := Try.zeroValue143
  t127 := Try.underlying156
  a127 := Try.isAgg156
  z127 := Try.sizeOf156
  v127 := Try.zeroValue156
  t146 := Try.underlying165
  a146 := Try.isAgg165
  z146 := Try.sizeOf165
  v146 := Try.zeroValue165
  t148 := Try.underlying167
  a148 := Try.isAgg167
  z148 := Try.sizeOf167
  v148 := Try.zeroValue167
  t164 := Try.underlying170
  a164 := Try.isAgg170
  z164 := Try.sizeOf170
  v164 := Try.zeroValue170 }
theorem Try.Builder_Extra_105 : Builder.Extra Try.prog Try.lays105_ren := {
  sizeBuilder := by kernel_rfl
  liesBuilder := by kernel_rfl
  t5 := Try.underlying5
  a5 := Try.isAgg5
  z5 := Try.sizeOf5
  v5 := Try.zeroValue5
  infoByte := by kernel_rfl
  cellsByte := by kernel_rfl
  sizeByte := by kernel_rfl
  neB5 := by decide }
open Go.RowKit Go.Lib in
/-- **strings.Repeat: count ≥ 0, the result within one allocation: count copies of s.** (LAID: no walk: one application.) -/
theorem Try.strings_Repeat (s : ByteArray) (c : Nat) (w : World) (hc : c ≤ 9223372036854775807) (hlen : s.size * c ≤ 140737488355328) :
    Calls Try.prog 85 #[.string s, .int .i64 c] w fun e w' => e = .returned (.string ⟨(Lib.repeatL s.data.toList c).toArray⟩) ∧ Below w.heap.size w w' := Any.strings_Repeat Try.lays105 Try.Builder_Extra_105 s c w hc hlen
end Go.Proofs
