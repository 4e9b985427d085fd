/- Contracts of the library's functions that the digest calls. -/
import Derived.Test.YtnomgkmeomlccaaGreatLay
import Derived.Test.YtnomgkmeomlccaaGreatRd
import Derived.Test.YtnomgkmeomlccaaGreatBase
set_option linter.unusedVariables false
set_option linter.unusedSimpArgs false
namespace Go.Proofs.YtnomgkmeomlccaaGreat.Shlf
open Go.RowKit

theorem repeat_any (s : ByteArray) (c : Nat) (w : World) (hlen : s.size * c ≤ 140737488355328) (hc : c ≤ 9223372036854775807) :
    Calls Tryz.prog 92 #[.string s, .int .i64 c] w fun e w' => e = .returned (.string ⟨(Lib.repeatL s.data.toList c).toArray⟩) ∧ Below w.heap.size w w' := Tryz.strings_Repeat s c w hc hlen

theorem write_any (B b : Nat) (bs : List Value) (s : ByteArray) (w : World) (h : Lib.IsBuilder 168 5 B b bs w) (hlen : bs.length + s.size ≤ 140737488355328) (hBw : B ≤ w.heap.size) :
    Calls Tryz.prog 94 #[.pointer (some ⟨b, 0, none⟩), .string s] w fun e w' => e = .returned (.tuple #[.int .i64 s.size, .nilIface]) ∧ (Lib.BuilderAt 168 5 B b (.pointer (some ⟨b, 0, none⟩)) (bs ++ Lib.strCells s) w' ∧ Below B w w') :=
  Any.Builder_WriteString { Tryz.lays105 with } Tryz.Builder_Extra_105 B b bs s w h hlen hBw

theorem text_any (B b : Nat) (l : List UInt8) (w : World) (h : Lib.IsBuilder 168 5 B b (Lib.byteCells l) w) (h0 : l ≠ []) :
    Calls Tryz.prog 95 #[.pointer (some ⟨b, 0, none⟩)] w fun e w' => e = .returned (.string ⟨l.toArray⟩) ∧ Below B w w' :=
  Any.Builder_String { Tryz.lays105 with } Tryz.Builder_Extra_105 B b l w h h0
end Go.Proofs.YtnomgkmeomlccaaGreat.Shlf
