/- The library's contracts that are laid at this program. -/
import Derived.Shelf.Strings.Builder1
import Derived.Shelf.Strings.Builder2
import Derived.Shelf.Strings.BuilderF
import Derived.Shelf.Strings.Prefix
import Derived.Shelf.Bits.Mul64
import Derived.Shelf.Strings.Repeat
import Derived.Ground.Names2Prog
import Derived.Shelf.Slices.ReverseS
import Derived.Shelf.Slices.Cells
import Derived.Test.YtnomgkmeomlccaaProg
set_option linter.unusedVariables false
namespace Go.Proofs
open Go.Shelf
def Try.lays105_ren : Go.Shelf.Ren := ⟨fun | 105 => 122 | 212 => 140 | 99 => 141 | 165 => 142 | 166 => 124 | 170 => 143 | 169 => 125 | 263 => 158 | 264 => 159 | 206 => 160 | 240 => 147 | 241 => 161 | 276 => 163 | 277 => 170 | n => n, fun | 9 => 9 | 3 => 3 | 4 => 4 | 20 => 20 | 0 => 0 | 46 => 168 | 109 => 189 | 5 => 5 | 72 => 173 | 76 => 176 | 51 => 163 | 146 => 207 | 53 => 146 | 148 => 209 | 70 => 171 | 37 => 141 | 75 => 175 | 127 => 201 | 164 => 212 | 80 => 55 | n => n, fun | n => n⟩
theorem Try.lays105 : Go.Proofs.Lays.n105 Try.prog Try.lays105_ren := {
  mixed := by kernel_rfl
  f99 := Try.func141.trans (congrArg some (by kernel_rfl))
  f105 := Try.func122.trans (congrArg some (by kernel_rfl))
  f165 := Try.func142.trans (congrArg some (by kernel_rfl))
  f166 := Try.func124.trans (congrArg some (by kernel_rfl))
  f169 := Try.func125.trans (congrArg some (by kernel_rfl))
  f170 := Try.func143.trans (congrArg some (by kernel_rfl))
  f206 := Try.func160.trans (congrArg some (by kernel_rfl))
  f212 := Try.func140.trans (congrArg some (by kernel_rfl))
  f240 := Try.func147.trans (congrArg some (by kernel_rfl))
  f241 := Try.func161.trans (congrArg some (by kernel_rfl))
  f263 := Try.func158.trans (congrArg some (by kernel_rfl))
  f264 := Try.func159.trans (congrArg some (by kernel_rfl))
  f276 := Try.func163.trans (congrArg some (by kernel_rfl))
  f277 := Try.func170.trans (congrArg some (by kernel_rfl))
  t0 := Try.underlying0
  a0 := Try.isAgg0
  z0 := Try.sizeOf0
  v0 := Try.zeroValue0
  t3 := Try.underlying3
  a3 := Try.isAgg3
  z3 := Try.sizeOf3
  v3 := Try.zeroValue3
  t4 := Try.underlying4
  a4 := Try.isAgg4
  z4 := Try.sizeOf4
  v4 := Try.zeroValue4
  t5 := Try.underlying5
  a5 := Try.isAgg5
  z5 := Try.sizeOf5
  v5 := Try.zeroValue5
  t9 := Try.underlying9
  a9 := Try.isAgg9
  z9 := Try.sizeOf9
  v9 := Try.zeroValue9
  t20 := Try.underlying20
  a20 := Try.isAgg20
  z20 := Try.sizeOf20
  v20 := Try.zeroValue20
  t37 := Try.underlying141
  a37 := Try.isAgg141
  z37 := Try.sizeOf141
  v37 := Try.zeroValue141
  t46 := Try.underlying168
  a46 := Try.isAgg168
  z46 := Try.sizeOf168
  v46 := Try.zeroValue168
  t51 := Try.underlying163
  a51 := Try.isAgg163
  z51 := Try.sizeOf163
  v51 := Try.zeroValue163
  t53 := Try.underlying146
  a53 := Try.isAgg146
  z53 := Try.sizeOf146
  v53 := Try.zeroValue146
  t70 := Try.underlying171
  a70 := Try.isAgg171
  z70 := Try.sizeOf171
  v70 := Try.zeroValue171
  t72 := Try.underlying173
  a72 := Try.isAgg173
  z72 := Try.sizeOf173
  v72 := Try.zeroValue173
  t75 := Try.underlying175
  a75 := Try.isAgg175
  z75 := Try.sizeOf175
  v75 := Try.zeroValue175
  t76 := Try.underlying176
  a76 := Try.isAgg176
  z76 := Try.sizeOf176
  v76 := Try.zeroValue176
  t109 := Try.underlying189
  a109 := Try.isAgg189
  z109 := Try.sizeOf189
  v109 := Try.zeroValue189
  t127 := Try.underlying201
  a127 := Try.isAgg201
  z127 := Try.sizeOf201
  v127 := Try.zeroValue201
  t146 := Try.underlying207
  a146 := Try.isAgg207
  z146 := Try.sizeOf207
  v146 := Try.zeroValue207
  t148 := Try.underlying209
  a148 := Try.isAgg209
  z148 := Try.sizeOf209
  v148 := Try.zeroValue209
  t164 := Try.underlying212
  a164 := Try.isAgg212
  z164 := Try.sizeOf212
  v164 := Try.zeroValue212 }
theorem Try.Builder_Extra_105 : Builder.Extra Try.prog Try.lays105_ren := {
  sizeBuilder := by kernel_rfl
  liesBuilder := by kernel_rfl
  t5 := Try.underlying5
  a5 := Try.isAgg5
  z5 := Try.sizeOf5
  v5 := Try.zeroValue5
  infoByte := by kernel_rfl
  cellsByte := by kernel_rfl
  sizeByte := by kernel_rfl
  neB5 := by decide }
open Go.RowKit Go.Lib in
/-- **strings.Repeat: count ≥ 0, the result within one allocation: count copies of s.** (LAID: no walk: one application.) -/
theorem Try.strings_Repeat (s : ByteArray) (c : Nat) (w : World) (hc : c ≤ 9223372036854775807) (hlen : s.size * c ≤ 140737488355328) :
    Calls Try.prog 122 #[.string s, .int .i64 c] w fun e w' => e = .returned (.string ⟨(Lib.repeatL s.data.toList c).toArray⟩) ∧ Below w.heap.size w w' := Any.strings_Repeat Try.lays105 Try.Builder_Extra_105 s c w hc hlen
end Go.Proofs
