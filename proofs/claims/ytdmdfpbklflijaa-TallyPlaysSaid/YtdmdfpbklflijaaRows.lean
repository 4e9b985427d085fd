/-
  No cell of these rows narrows 'for every input' (looked for: loops, veiled, ifaces, maps, wideKeys, modest, calm, conditions, laid).
  DERIVED. THE GIVEN ROWS OF THIS SEAT. 9 by the template 'for every input the law returns true; each argument reads behind the call as it read before'; 0 by the template 'total and deterministic' (their statements: YtdmdfpbklflijaaTotals.lean).
  GIVEN WITH THE SEED: the statements are not yours to turn. If you find one false, say at which input.
  Laid BY PROGRAM, IN A SANDBOX (cutbox-rows.mjs): the forced cells as the released guide's own fill.sh prints them over the translation fda0be73d50d24f9… (all of the seat's roots in one cut). By AI agents, Wed Nov 11 2026. No macro, syntax, notation, axiom, sorry.
-/
import Derived.Test.YtdmdfpbklflijaaChecked
import GoSem.Claim
import GoSem.ClaimJoined
import GoSem.ClaimMapViews
import Derived.JoinedTies
import Derived.KernelRfl
namespace Go.Proofs.Ytdmdfpbklflijaa
/- THE CELL 'sum', in the pinned program and in every row, IS THE sha256 OF THE DUMP (.gsa) THAT YtdmdfpbklflijaaProg.lean LOADS. Nothing in Lean hashes anything: it is a label: what it is worth is what the hold of that sum in a sandbox is worth. -/
noncomputable def Try.pinned : Pinned := { name := "ytdmdfpbklflijaa", sum := "fda0be73d50d24f92add1c9cc03b317f2257b1ac20285ed0fde444dd53fdc9df", checked := Try.checked }
namespace Rows
def none {H : Type} : Left H := { results := [], args := [] }

/-- 'comitialaw05.CertHolds': WHATEVER THE INPUT: true; the input reads as it did. -/
def certHoldsSpec : ChangeSpec := { name := "certHolds", fn := fun _ => fun
  | [d1, d2, d3] => { results := [.lit (.bool true)], args := [d1, d2, d3] }
  | _ => none }
def certHoldsRow : OpenClaim := { program := "ytdmdfpbklflijaa", sum := "fda0be73d50d24f92add1c9cc03b317f2257b1ac20285ed0fde444dd53fdc9df", func := "comitia/comitialaw05.CertHolds", spec := "certHolds", inPlace := ["internal/abi.NoEscape", "internal/bytealg.MakeNoZero"], unfollowed := true, recurses := true, apart := false }
def CertHoldsSaid : Prop := certHoldsRow.holds Try.pinned (OpenSpec.ofChange certHoldsSpec)

/-- ITS FALSE NEIGHBOUR: 'it returns false'. Refute it at one input. -/
def certHoldsWrong : ChangeSpec := { name := "certHolds", fn := fun _ => fun
  | [d1, d2, d3] => { results := [.lit (.bool false)], args := [d1, d2, d3] }
  | _ => none }
def CertHoldsWrongFalsely : Prop := certHoldsRow.holds Try.pinned (OpenSpec.ofChange certHoldsWrong)

/-- 'comitialaw05.CertShares': WHATEVER THE INPUT: true; the input reads as it did. -/
def certSharesSpec : ChangeSpec := { name := "certShares", fn := fun _ => fun
  | [d1, d2, d3] => { results := [.lit (.bool true)], args := [d1, d2, d3] }
  | _ => none }
def certSharesRow : OpenClaim := { program := "ytdmdfpbklflijaa", sum := "fda0be73d50d24f92add1c9cc03b317f2257b1ac20285ed0fde444dd53fdc9df", func := "comitia/comitialaw05.CertShares", spec := "certShares", inPlace := ["internal/abi.NoEscape", "internal/bytealg.MakeNoZero"], unfollowed := true, recurses := true, apart := false }
def CertSharesSaid : Prop := certSharesRow.holds Try.pinned (OpenSpec.ofChange certSharesSpec)

/-- ITS FALSE NEIGHBOUR: 'it returns false'. Refute it at one input. -/
def certSharesWrong : ChangeSpec := { name := "certShares", fn := fun _ => fun
  | [d1, d2, d3] => { results := [.lit (.bool false)], args := [d1, d2, d3] }
  | _ => none }
def CertSharesWrongFalsely : Prop := certSharesRow.holds Try.pinned (OpenSpec.ofChange certSharesWrong)

/-- 'comitialaw05.CertFirst': WHATEVER THE INPUT: true; the input reads as it did. -/
def certFirstSpec : ChangeSpec := { name := "certFirst", fn := fun _ => fun
  | [d1, d2, d3] => { results := [.lit (.bool true)], args := [d1, d2, d3] }
  | _ => none }
def certFirstRow : OpenClaim := { program := "ytdmdfpbklflijaa", sum := "fda0be73d50d24f92add1c9cc03b317f2257b1ac20285ed0fde444dd53fdc9df", func := "comitia/comitialaw05.CertFirst", spec := "certFirst", inPlace := ["internal/abi.NoEscape", "internal/bytealg.MakeNoZero"], unfollowed := true, recurses := true, apart := false }
def CertFirstSaid : Prop := certFirstRow.holds Try.pinned (OpenSpec.ofChange certFirstSpec)

/-- ITS FALSE NEIGHBOUR: 'it returns false'. Refute it at one input. -/
def certFirstWrong : ChangeSpec := { name := "certFirst", fn := fun _ => fun
  | [d1, d2, d3] => { results := [.lit (.bool false)], args := [d1, d2, d3] }
  | _ => none }
def CertFirstWrongFalsely : Prop := certFirstRow.holds Try.pinned (OpenSpec.ofChange certFirstWrong)

/-- 'comitialaw05.CertMakes': WHATEVER THE INPUT: true; the input reads as it did. -/
def certMakesSpec : ChangeSpec := { name := "certMakes", fn := fun _ => fun
  | [d1, d2, d3] => { results := [.lit (.bool true)], args := [d1, d2, d3] }
  | _ => none }
def certMakesRow : OpenClaim := { program := "ytdmdfpbklflijaa", sum := "fda0be73d50d24f92add1c9cc03b317f2257b1ac20285ed0fde444dd53fdc9df", func := "comitia/comitialaw05.CertMakes", spec := "certMakes", inPlace := ["internal/abi.NoEscape", "internal/bytealg.MakeNoZero"], unfollowed := true, recurses := true, apart := false }
def CertMakesSaid : Prop := certMakesRow.holds Try.pinned (OpenSpec.ofChange certMakesSpec)

/-- ITS FALSE NEIGHBOUR: 'it returns false'. Refute it at one input. -/
def certMakesWrong : ChangeSpec := { name := "certMakes", fn := fun _ => fun
  | [d1, d2, d3] => { results := [.lit (.bool false)], args := [d1, d2, d3] }
  | _ => none }
def CertMakesWrongFalsely : Prop := certMakesRow.holds Try.pinned (OpenSpec.ofChange certMakesWrong)

/-- 'comitialaw05.CertTrue': WHATEVER THE INPUT: true; the input reads as it did. -/
def certTrueSpec : ChangeSpec := { name := "certTrue", fn := fun _ => fun
  | [d1, d2, d3] => { results := [.lit (.bool true)], args := [d1, d2, d3] }
  | _ => none }
def certTrueRow : OpenClaim := { program := "ytdmdfpbklflijaa", sum := "fda0be73d50d24f92add1c9cc03b317f2257b1ac20285ed0fde444dd53fdc9df", func := "comitia/comitialaw05.CertTrue", spec := "certTrue", inPlace := ["internal/abi.NoEscape", "internal/bytealg.MakeNoZero"], unfollowed := true, recurses := true, apart := false }
def CertTrueSaid : Prop := certTrueRow.holds Try.pinned (OpenSpec.ofChange certTrueSpec)

/-- ITS FALSE NEIGHBOUR: 'it returns false'. Refute it at one input. -/
def certTrueWrong : ChangeSpec := { name := "certTrue", fn := fun _ => fun
  | [d1, d2, d3] => { results := [.lit (.bool false)], args := [d1, d2, d3] }
  | _ => none }
def CertTrueWrongFalsely : Prop := certTrueRow.holds Try.pinned (OpenSpec.ofChange certTrueWrong)

/-- 'comitialaw14.TallyAll': WHATEVER THE INPUT: true; the input reads as it did. -/
def tallyAllSpec : ChangeSpec := { name := "tallyAll", fn := fun _ => fun
  | [d1, d2, d3] => { results := [.lit (.bool true)], args := [d1, d2, d3] }
  | _ => none }
def tallyAllRow : OpenClaim := { program := "ytdmdfpbklflijaa", sum := "fda0be73d50d24f92add1c9cc03b317f2257b1ac20285ed0fde444dd53fdc9df", func := "comitia/comitialaw14.TallyAll", spec := "tallyAll", inPlace := ["internal/abi.NoEscape", "internal/bytealg.MakeNoZero"], unfollowed := true, recurses := true, apart := false }
def TallyAllSaid : Prop := tallyAllRow.holds Try.pinned (OpenSpec.ofChange tallyAllSpec)

/-- ITS FALSE NEIGHBOUR: 'it returns false'. Refute it at one input. -/
def tallyAllWrong : ChangeSpec := { name := "tallyAll", fn := fun _ => fun
  | [d1, d2, d3] => { results := [.lit (.bool false)], args := [d1, d2, d3] }
  | _ => none }
def TallyAllWrongFalsely : Prop := tallyAllRow.holds Try.pinned (OpenSpec.ofChange tallyAllWrong)

/-- 'comitialaw14.TallyPlays': WHATEVER THE INPUT: true; the input reads as it did. -/
def tallyPlaysSpec : ChangeSpec := { name := "tallyPlays", fn := fun _ => fun
  | [d1, d2] => { results := [.lit (.bool true)], args := [d1, d2] }
  | _ => none }
def tallyPlaysRow : OpenClaim := { program := "ytdmdfpbklflijaa", sum := "fda0be73d50d24f92add1c9cc03b317f2257b1ac20285ed0fde444dd53fdc9df", func := "comitia/comitialaw14.TallyPlays", spec := "tallyPlays", inPlace := ["internal/abi.NoEscape", "internal/bytealg.MakeNoZero"], unfollowed := true, recurses := true, apart := false }
def TallyPlaysSaid : Prop := tallyPlaysRow.holds Try.pinned (OpenSpec.ofChange tallyPlaysSpec)

/-- ITS FALSE NEIGHBOUR: 'it returns false'. Refute it at one input. -/
def tallyPlaysWrong : ChangeSpec := { name := "tallyPlays", fn := fun _ => fun
  | [d1, d2] => { results := [.lit (.bool false)], args := [d1, d2] }
  | _ => none }
def TallyPlaysWrongFalsely : Prop := tallyPlaysRow.holds Try.pinned (OpenSpec.ofChange tallyPlaysWrong)

/-- 'comitialaw14.TallyCerts': WHATEVER THE INPUT: true; the input reads as it did. -/
def tallyCertsSpec : ChangeSpec := { name := "tallyCerts", fn := fun _ => fun
  | [d1, d2] => { results := [.lit (.bool true)], args := [d1, d2] }
  | _ => none }
def tallyCertsRow : OpenClaim := { program := "ytdmdfpbklflijaa", sum := "fda0be73d50d24f92add1c9cc03b317f2257b1ac20285ed0fde444dd53fdc9df", func := "comitia/comitialaw14.TallyCerts", spec := "tallyCerts", inPlace := ["internal/abi.NoEscape", "internal/bytealg.MakeNoZero"], unfollowed := true, recurses := true, apart := false }
def TallyCertsSaid : Prop := tallyCertsRow.holds Try.pinned (OpenSpec.ofChange tallyCertsSpec)

/-- ITS FALSE NEIGHBOUR: 'it returns false'. Refute it at one input. -/
def tallyCertsWrong : ChangeSpec := { name := "tallyCerts", fn := fun _ => fun
  | [d1, d2] => { results := [.lit (.bool false)], args := [d1, d2] }
  | _ => none }
def TallyCertsWrongFalsely : Prop := tallyCertsRow.holds Try.pinned (OpenSpec.ofChange tallyCertsWrong)

/-- 'comitialaw19.ClientWeak': WHATEVER THE INPUT: true; the input reads as it did. -/
def clientWeakSpec : ChangeSpec := { name := "clientWeak", fn := fun _ => fun
  | [d1, d2, d3] => { results := [.lit (.bool true)], args := [d1, d2, d3] }
  | _ => none }
def clientWeakRow : OpenClaim := { program := "ytdmdfpbklflijaa", sum := "fda0be73d50d24f92add1c9cc03b317f2257b1ac20285ed0fde444dd53fdc9df", func := "comitia/comitialaw19.ClientWeak", spec := "clientWeak", inPlace := ["internal/abi.NoEscape", "internal/bytealg.MakeNoZero"], apart := false }
def ClientWeakSaid : Prop := clientWeakRow.holds Try.pinned (OpenSpec.ofChange clientWeakSpec)

/-- ITS FALSE NEIGHBOUR: 'it returns false'. Refute it at one input. -/
def clientWeakWrong : ChangeSpec := { name := "clientWeak", fn := fun _ => fun
  | [d1, d2, d3] => { results := [.lit (.bool false)], args := [d1, d2, d3] }
  | _ => none }
def ClientWeakWrongFalsely : Prop := clientWeakRow.holds Try.pinned (OpenSpec.ofChange clientWeakWrong)

/- THE SECOND FORM. 'bulk': how many values and letters a reading holds, each counted each time it is reached (what is shared counts as often as it is met; a slice's spare places count too). A statement '..UptoSaid' is the law's where the arguments, and the package variables that the reading takes, are together of bulk at most 1048576: NARROWER than '..Said'. Prove '..Said' where nothing that the law and all that it calls make is longer than what came in: it says more and counts as full. Else prove '..UptoSaid'. A law counts once. -/
mutual
def uptoBulk {H : Type} : DataW H → Nat
  | .lit (.string bytes) => bytes.length + 1
  | .lit _ => 1
  | .nil => 1
  | .ptr d => uptoBulk d + 1
  | .slice elems spare => uptoBulkAll elems + uptoBulkAll spare + 1
  | .agg parts => uptoBulkAll parts + 1
  | .iface _ d => uptoBulk d + 1
  | .map entries => uptoBulkEntries entries + 1
  | .held _ => 1
def uptoBulkAll {H : Type} : List (DataW H) → Nat
  | [] => 0
  | d :: r => uptoBulk d + uptoBulkAll r
def uptoBulkEntries {H : Type} : List (Lit × DataW H) → Nat
  | [] => 0
  | x :: r => uptoBulkEntry x + uptoBulkEntries r
def uptoBulkEntry {H : Type} : Lit × DataW H → Nat
  | (.string bytes, d) => bytes.length + uptoBulk d + 1
  | (_, d) => uptoBulk d + 1
 end
def uptoSmall : (H : Type) → List (DataW H) → Bool := fun _ ds => decide (uptoBulkAll ds ≤ 1048576)
def OpenSpec.upto (s : _root_.Go.ChangeSpec) : _root_.Go.OpenSpec := { _root_.Go.OpenSpec.ofChange s with cond := some uptoSmall }

/-- 'comitialaw05.CertHolds', WHERE WHAT IT READS IS OF BULK AT MOST 1048576: true; the input reads as it did. -/
def certHoldsUptoRow : OpenClaim := { program := "ytdmdfpbklflijaa", sum := "fda0be73d50d24f92add1c9cc03b317f2257b1ac20285ed0fde444dd53fdc9df", func := "comitia/comitialaw05.CertHolds", spec := "certHolds", inPlace := ["internal/abi.NoEscape", "internal/bytealg.MakeNoZero"], unfollowed := true, recurses := true, apart := false, narrowed := true }
def CertHoldsUptoSaid : Prop := certHoldsUptoRow.holds Try.pinned (OpenSpec.upto certHoldsSpec)

/-- 'comitialaw05.CertShares', WHERE WHAT IT READS IS OF BULK AT MOST 1048576: true; the input reads as it did. -/
def certSharesUptoRow : OpenClaim := { program := "ytdmdfpbklflijaa", sum := "fda0be73d50d24f92add1c9cc03b317f2257b1ac20285ed0fde444dd53fdc9df", func := "comitia/comitialaw05.CertShares", spec := "certShares", inPlace := ["internal/abi.NoEscape", "internal/bytealg.MakeNoZero"], unfollowed := true, recurses := true, apart := false, narrowed := true }
def CertSharesUptoSaid : Prop := certSharesUptoRow.holds Try.pinned (OpenSpec.upto certSharesSpec)

/-- 'comitialaw05.CertFirst', WHERE WHAT IT READS IS OF BULK AT MOST 1048576: true; the input reads as it did. -/
def certFirstUptoRow : OpenClaim := { program := "ytdmdfpbklflijaa", sum := "fda0be73d50d24f92add1c9cc03b317f2257b1ac20285ed0fde444dd53fdc9df", func := "comitia/comitialaw05.CertFirst", spec := "certFirst", inPlace := ["internal/abi.NoEscape", "internal/bytealg.MakeNoZero"], unfollowed := true, recurses := true, apart := false, narrowed := true }
def CertFirstUptoSaid : Prop := certFirstUptoRow.holds Try.pinned (OpenSpec.upto certFirstSpec)

/-- 'comitialaw05.CertMakes', WHERE WHAT IT READS IS OF BULK AT MOST 1048576: true; the input reads as it did. -/
def certMakesUptoRow : OpenClaim := { program := "ytdmdfpbklflijaa", sum := "fda0be73d50d24f92add1c9cc03b317f2257b1ac20285ed0fde444dd53fdc9df", func := "comitia/comitialaw05.CertMakes", spec := "certMakes", inPlace := ["internal/abi.NoEscape", "internal/bytealg.MakeNoZero"], unfollowed := true, recurses := true, apart := false, narrowed := true }
def CertMakesUptoSaid : Prop := certMakesUptoRow.holds Try.pinned (OpenSpec.upto certMakesSpec)

/-- 'comitialaw05.CertTrue', WHERE WHAT IT READS IS OF BULK AT MOST 1048576: true; the input reads as it did. -/
def certTrueUptoRow : OpenClaim := { program := "ytdmdfpbklflijaa", sum := "fda0be73d50d24f92add1c9cc03b317f2257b1ac20285ed0fde444dd53fdc9df", func := "comitia/comitialaw05.CertTrue", spec := "certTrue", inPlace := ["internal/abi.NoEscape", "internal/bytealg.MakeNoZero"], unfollowed := true, recurses := true, apart := false, narrowed := true }
def CertTrueUptoSaid : Prop := certTrueUptoRow.holds Try.pinned (OpenSpec.upto certTrueSpec)

/-- 'comitialaw14.TallyAll', WHERE WHAT IT READS IS OF BULK AT MOST 1048576: true; the input reads as it did. -/
def tallyAllUptoRow : OpenClaim := { program := "ytdmdfpbklflijaa", sum := "fda0be73d50d24f92add1c9cc03b317f2257b1ac20285ed0fde444dd53fdc9df", func := "comitia/comitialaw14.TallyAll", spec := "tallyAll", inPlace := ["internal/abi.NoEscape", "internal/bytealg.MakeNoZero"], unfollowed := true, recurses := true, apart := false, narrowed := true }
def TallyAllUptoSaid : Prop := tallyAllUptoRow.holds Try.pinned (OpenSpec.upto tallyAllSpec)

/-- 'comitialaw14.TallyPlays', WHERE WHAT IT READS IS OF BULK AT MOST 1048576: true; the input reads as it did. -/
def tallyPlaysUptoRow : OpenClaim := { program := "ytdmdfpbklflijaa", sum := "fda0be73d50d24f92add1c9cc03b317f2257b1ac20285ed0fde444dd53fdc9df", func := "comitia/comitialaw14.TallyPlays", spec := "tallyPlays", inPlace := ["internal/abi.NoEscape", "internal/bytealg.MakeNoZero"], unfollowed := true, recurses := true, apart := false, narrowed := true }
def TallyPlaysUptoSaid : Prop := tallyPlaysUptoRow.holds Try.pinned (OpenSpec.upto tallyPlaysSpec)

/-- 'comitialaw14.TallyCerts', WHERE WHAT IT READS IS OF BULK AT MOST 1048576: true; the input reads as it did. -/
def tallyCertsUptoRow : OpenClaim := { program := "ytdmdfpbklflijaa", sum := "fda0be73d50d24f92add1c9cc03b317f2257b1ac20285ed0fde444dd53fdc9df", func := "comitia/comitialaw14.TallyCerts", spec := "tallyCerts", inPlace := ["internal/abi.NoEscape", "internal/bytealg.MakeNoZero"], unfollowed := true, recurses := true, apart := false, narrowed := true }
def TallyCertsUptoSaid : Prop := tallyCertsUptoRow.holds Try.pinned (OpenSpec.upto tallyCertsSpec)

/-- 'comitialaw19.ClientWeak', WHERE WHAT IT READS IS OF BULK AT MOST 1048576: true; the input reads as it did. -/
def clientWeakUptoRow : OpenClaim := { program := "ytdmdfpbklflijaa", sum := "fda0be73d50d24f92add1c9cc03b317f2257b1ac20285ed0fde444dd53fdc9df", func := "comitia/comitialaw19.ClientWeak", spec := "clientWeak", inPlace := ["internal/abi.NoEscape", "internal/bytealg.MakeNoZero"], apart := false, narrowed := true }
def ClientWeakUptoSaid : Prop := clientWeakUptoRow.holds Try.pinned (OpenSpec.upto clientWeakSpec)

end Rows
end Go.Proofs.Ytdmdfpbklflijaa
