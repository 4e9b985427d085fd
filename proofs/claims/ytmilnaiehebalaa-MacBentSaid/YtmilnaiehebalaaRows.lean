/-
  No cell of these rows narrows 'for every input' (looked for: loops, veiled, ifaces, maps, wideKeys, modest, calm, conditions, laid).
  DERIVED. THE GIVEN ROWS OF THIS SEAT. 9 by the template 'for every input the law returns true; each argument reads behind the call as it read before'; 0 by the template 'total and deterministic' (their statements: YtmilnaiehebalaaTotals.lean).
  GIVEN WITH THE SEED: the statements are not yours to turn. If you find one false, say at which input.
  Laid BY PROGRAM, IN A SANDBOX (cutbox-rows.mjs): the forced cells as the released guide's own fill.sh prints them over the translation b5c2076a6409b103… (all of the seat's roots in one cut). By AI agents, Wed Nov 11 2026. No macro, syntax, notation, axiom, sorry.
-/
import Derived.Test.YtmilnaiehebalaaChecked
import GoSem.Claim
import GoSem.ClaimJoined
import GoSem.ClaimMapViews
import Derived.JoinedTies
import Derived.KernelRfl
namespace Go.Proofs.Ytmilnaiehebalaa
/- THE CELL 'sum', in the pinned program and in every row, IS THE sha256 OF THE DUMP (.gsa) THAT YtmilnaiehebalaaProg.lean LOADS. Nothing in Lean hashes anything: it is a label: what it is worth is what the hold of that sum in a sandbox is worth. -/
noncomputable def Try.pinned : Pinned := { name := "ytmilnaiehebalaa", sum := "b5c2076a6409b1031cc7bcf694b7d8ae860c4490ad987dd8d4981e2efc600520", checked := Try.checked }
namespace Rows
def none {H : Type} : Left H := { results := [], args := [] }

/-- 'comitialaw01.BlakeSums': WHATEVER THE INPUT: true; the input reads as it did. -/
def blakeSumsSpec : ChangeSpec := { name := "blakeSums", fn := fun _ => fun
  | [d] => { results := [.lit (.bool true)], args := [d] }
  | _ => none }
def blakeSumsRow : OpenClaim := { program := "ytmilnaiehebalaa", sum := "b5c2076a6409b1031cc7bcf694b7d8ae860c4490ad987dd8d4981e2efc600520", func := "comitia/comitialaw01.BlakeSums", spec := "blakeSums", inPlace := ["internal/abi.NoEscape", "internal/bytealg.MakeNoZero"], apart := false }
def BlakeSumsSaid : Prop := blakeSumsRow.holds Try.pinned (OpenSpec.ofChange blakeSumsSpec)

/-- ITS FALSE NEIGHBOUR: 'it returns false'. Refute it at one input. -/
def blakeSumsWrong : ChangeSpec := { name := "blakeSums", fn := fun _ => fun
  | [d] => { results := [.lit (.bool false)], args := [d] }
  | _ => none }
def BlakeSumsWrongFalsely : Prop := blakeSumsRow.holds Try.pinned (OpenSpec.ofChange blakeSumsWrong)

/-- 'comitialaw01.BlakeParts': WHATEVER THE INPUT: true; the input reads as it did. -/
def blakePartsSpec : ChangeSpec := { name := "blakeParts", fn := fun _ => fun
  | [d1, d2] => { results := [.lit (.bool true)], args := [d1, d2] }
  | _ => none }
def blakePartsRow : OpenClaim := { program := "ytmilnaiehebalaa", sum := "b5c2076a6409b1031cc7bcf694b7d8ae860c4490ad987dd8d4981e2efc600520", func := "comitia/comitialaw01.BlakeParts", spec := "blakeParts", inPlace := ["internal/abi.NoEscape", "internal/bytealg.MakeNoZero"], apart := false }
def BlakePartsSaid : Prop := blakePartsRow.holds Try.pinned (OpenSpec.ofChange blakePartsSpec)

/-- ITS FALSE NEIGHBOUR: 'it returns false'. Refute it at one input. -/
def blakePartsWrong : ChangeSpec := { name := "blakeParts", fn := fun _ => fun
  | [d1, d2] => { results := [.lit (.bool false)], args := [d1, d2] }
  | _ => none }
def BlakePartsWrongFalsely : Prop := blakePartsRow.holds Try.pinned (OpenSpec.ofChange blakePartsWrong)

/-- 'comitialaw01.BlakeApart': WHATEVER THE INPUT: true; the input reads as it did. -/
def blakeApartSpec : ChangeSpec := { name := "blakeApart", fn := fun _ => fun
  | [d1, d2] => { results := [.lit (.bool true)], args := [d1, d2] }
  | _ => none }
def blakeApartRow : OpenClaim := { program := "ytmilnaiehebalaa", sum := "b5c2076a6409b1031cc7bcf694b7d8ae860c4490ad987dd8d4981e2efc600520", func := "comitia/comitialaw01.BlakeApart", spec := "blakeApart", inPlace := ["internal/abi.NoEscape", "internal/bytealg.MakeNoZero"], apart := false }
def BlakeApartSaid : Prop := blakeApartRow.holds Try.pinned (OpenSpec.ofChange blakeApartSpec)

/-- ITS FALSE NEIGHBOUR: 'it returns false'. Refute it at one input. -/
def blakeApartWrong : ChangeSpec := { name := "blakeApart", fn := fun _ => fun
  | [d1, d2] => { results := [.lit (.bool false)], args := [d1, d2] }
  | _ => none }
def BlakeApartWrongFalsely : Prop := blakeApartRow.holds Try.pinned (OpenSpec.ofChange blakeApartWrong)

/-- 'comitialaw01.BlakeBlocks': WHATEVER THE INPUT: true; the input reads as it did. -/
def blakeBlocksSpec : ChangeSpec := { name := "blakeBlocks", fn := fun _ => fun
  | [d1, d2, d3] => { results := [.lit (.bool true)], args := [d1, d2, d3] }
  | _ => none }
def blakeBlocksRow : OpenClaim := { program := "ytmilnaiehebalaa", sum := "b5c2076a6409b1031cc7bcf694b7d8ae860c4490ad987dd8d4981e2efc600520", func := "comitia/comitialaw01.BlakeBlocks", spec := "blakeBlocks", inPlace := ["internal/abi.NoEscape", "internal/bytealg.MakeNoZero"], apart := false }
def BlakeBlocksSaid : Prop := blakeBlocksRow.holds Try.pinned (OpenSpec.ofChange blakeBlocksSpec)

/-- ITS FALSE NEIGHBOUR: 'it returns false'. Refute it at one input. -/
def blakeBlocksWrong : ChangeSpec := { name := "blakeBlocks", fn := fun _ => fun
  | [d1, d2, d3] => { results := [.lit (.bool false)], args := [d1, d2, d3] }
  | _ => none }
def BlakeBlocksWrongFalsely : Prop := blakeBlocksRow.holds Try.pinned (OpenSpec.ofChange blakeBlocksWrong)

/-- 'comitialaw01.BlakeKeyed': WHATEVER THE INPUT: true; the input reads as it did. -/
def blakeKeyedSpec : ChangeSpec := { name := "blakeKeyed", fn := fun _ => fun
  | [d1, d2] => { results := [.lit (.bool true)], args := [d1, d2] }
  | _ => none }
def blakeKeyedRow : OpenClaim := { program := "ytmilnaiehebalaa", sum := "b5c2076a6409b1031cc7bcf694b7d8ae860c4490ad987dd8d4981e2efc600520", func := "comitia/comitialaw01.BlakeKeyed", spec := "blakeKeyed", inPlace := ["internal/abi.NoEscape", "internal/bytealg.MakeNoZero"], apart := false }
def BlakeKeyedSaid : Prop := blakeKeyedRow.holds Try.pinned (OpenSpec.ofChange blakeKeyedSpec)

/-- ITS FALSE NEIGHBOUR: 'it returns false'. Refute it at one input. -/
def blakeKeyedWrong : ChangeSpec := { name := "blakeKeyed", fn := fun _ => fun
  | [d1, d2] => { results := [.lit (.bool false)], args := [d1, d2] }
  | _ => none }
def BlakeKeyedWrongFalsely : Prop := blakeKeyedRow.holds Try.pinned (OpenSpec.ofChange blakeKeyedWrong)

/-- 'comitialaw03.MacKeys': WHATEVER THE INPUT: true; the input reads as it did. -/
def macKeysSpec : ChangeSpec := { name := "macKeys", fn := fun _ => fun
  | [d1, d2, d3] => { results := [.lit (.bool true)], args := [d1, d2, d3] }
  | _ => none }
def macKeysRow : OpenClaim := { program := "ytmilnaiehebalaa", sum := "b5c2076a6409b1031cc7bcf694b7d8ae860c4490ad987dd8d4981e2efc600520", func := "comitia/comitialaw03.MacKeys", spec := "macKeys", inPlace := ["internal/abi.NoEscape", "internal/bytealg.MakeNoZero"], recurses := true, apart := false }
def MacKeysSaid : Prop := macKeysRow.holds Try.pinned (OpenSpec.ofChange macKeysSpec)

/-- ITS FALSE NEIGHBOUR: 'it returns false'. Refute it at one input. -/
def macKeysWrong : ChangeSpec := { name := "macKeys", fn := fun _ => fun
  | [d1, d2, d3] => { results := [.lit (.bool false)], args := [d1, d2, d3] }
  | _ => none }
def MacKeysWrongFalsely : Prop := macKeysRow.holds Try.pinned (OpenSpec.ofChange macKeysWrong)

/-- 'comitialaw03.MacSigns': WHATEVER THE INPUT: true; the input reads as it did. -/
def macSignsSpec : ChangeSpec := { name := "macSigns", fn := fun _ => fun
  | [d1, d2, d3] => { results := [.lit (.bool true)], args := [d1, d2, d3] }
  | _ => none }
def macSignsRow : OpenClaim := { program := "ytmilnaiehebalaa", sum := "b5c2076a6409b1031cc7bcf694b7d8ae860c4490ad987dd8d4981e2efc600520", func := "comitia/comitialaw03.MacSigns", spec := "macSigns", inPlace := ["internal/abi.NoEscape", "internal/bytealg.MakeNoZero"], unfollowed := true, recurses := true, apart := false }
def MacSignsSaid : Prop := macSignsRow.holds Try.pinned (OpenSpec.ofChange macSignsSpec)

/-- ITS FALSE NEIGHBOUR: 'it returns false'. Refute it at one input. -/
def macSignsWrong : ChangeSpec := { name := "macSigns", fn := fun _ => fun
  | [d1, d2, d3] => { results := [.lit (.bool false)], args := [d1, d2, d3] }
  | _ => none }
def MacSignsWrongFalsely : Prop := macSignsRow.holds Try.pinned (OpenSpec.ofChange macSignsWrong)

/-- 'comitialaw03.MacHolds': WHATEVER THE INPUT: true; the input reads as it did. -/
def macHoldsSpec : ChangeSpec := { name := "macHolds", fn := fun _ => fun
  | [d1, d2, d3] => { results := [.lit (.bool true)], args := [d1, d2, d3] }
  | _ => none }
def macHoldsRow : OpenClaim := { program := "ytmilnaiehebalaa", sum := "b5c2076a6409b1031cc7bcf694b7d8ae860c4490ad987dd8d4981e2efc600520", func := "comitia/comitialaw03.MacHolds", spec := "macHolds", inPlace := ["internal/abi.NoEscape", "internal/bytealg.MakeNoZero"], unfollowed := true, recurses := true, apart := false }
def MacHoldsSaid : Prop := macHoldsRow.holds Try.pinned (OpenSpec.ofChange macHoldsSpec)

/-- ITS FALSE NEIGHBOUR: 'it returns false'. Refute it at one input. -/
def macHoldsWrong : ChangeSpec := { name := "macHolds", fn := fun _ => fun
  | [d1, d2, d3] => { results := [.lit (.bool false)], args := [d1, d2, d3] }
  | _ => none }
def MacHoldsWrongFalsely : Prop := macHoldsRow.holds Try.pinned (OpenSpec.ofChange macHoldsWrong)

/-- 'comitialaw03.MacBent': WHATEVER THE INPUT: true; the input reads as it did. -/
def macBentSpec : ChangeSpec := { name := "macBent", fn := fun _ => fun
  | [d1, d2, d3] => { results := [.lit (.bool true)], args := [d1, d2, d3] }
  | _ => none }
def macBentRow : OpenClaim := { program := "ytmilnaiehebalaa", sum := "b5c2076a6409b1031cc7bcf694b7d8ae860c4490ad987dd8d4981e2efc600520", func := "comitia/comitialaw03.MacBent", spec := "macBent", inPlace := ["internal/abi.NoEscape", "internal/bytealg.MakeNoZero"], unfollowed := true, recurses := true, apart := false }
def MacBentSaid : Prop := macBentRow.holds Try.pinned (OpenSpec.ofChange macBentSpec)

/-- ITS FALSE NEIGHBOUR: 'it returns false'. Refute it at one input. -/
def macBentWrong : ChangeSpec := { name := "macBent", fn := fun _ => fun
  | [d1, d2, d3] => { results := [.lit (.bool false)], args := [d1, d2, d3] }
  | _ => none }
def MacBentWrongFalsely : Prop := macBentRow.holds Try.pinned (OpenSpec.ofChange macBentWrong)

/- THE SECOND FORM. 'bulk': how many values and letters a reading holds, each counted each time it is reached (what is shared counts as often as it is met; a slice's spare places count too). A statement '..UptoSaid' is the law's where the arguments, and the package variables that the reading takes, are together of bulk at most 1048576: NARROWER than '..Said'. Prove '..Said' where nothing that the law and all that it calls make is longer than what came in: it says more and counts as full. Else prove '..UptoSaid'. A law counts once. -/
mutual
def uptoBulk {H : Type} : DataW H → Nat
  | .lit (.string bytes) => bytes.length + 1
  | .lit _ => 1
  | .nil => 1
  | .ptr d => uptoBulk d + 1
  | .slice elems spare => uptoBulkAll elems + uptoBulkAll spare + 1
  | .agg parts => uptoBulkAll parts + 1
  | .iface _ d => uptoBulk d + 1
  | .map entries => uptoBulkEntries entries + 1
  | .held _ => 1
def uptoBulkAll {H : Type} : List (DataW H) → Nat
  | [] => 0
  | d :: r => uptoBulk d + uptoBulkAll r
def uptoBulkEntries {H : Type} : List (Lit × DataW H) → Nat
  | [] => 0
  | x :: r => uptoBulkEntry x + uptoBulkEntries r
def uptoBulkEntry {H : Type} : Lit × DataW H → Nat
  | (.string bytes, d) => bytes.length + uptoBulk d + 1
  | (_, d) => uptoBulk d + 1
 end
def uptoSmall : (H : Type) → List (DataW H) → Bool := fun _ ds => decide (uptoBulkAll ds ≤ 1048576)
def OpenSpec.upto (s : _root_.Go.ChangeSpec) : _root_.Go.OpenSpec := { _root_.Go.OpenSpec.ofChange s with cond := some uptoSmall }

/-- 'comitialaw01.BlakeSums', WHERE WHAT IT READS IS OF BULK AT MOST 1048576: true; the input reads as it did. -/
def blakeSumsUptoRow : OpenClaim := { program := "ytmilnaiehebalaa", sum := "b5c2076a6409b1031cc7bcf694b7d8ae860c4490ad987dd8d4981e2efc600520", func := "comitia/comitialaw01.BlakeSums", spec := "blakeSums", inPlace := ["internal/abi.NoEscape", "internal/bytealg.MakeNoZero"], apart := false, narrowed := true }
def BlakeSumsUptoSaid : Prop := blakeSumsUptoRow.holds Try.pinned (OpenSpec.upto blakeSumsSpec)

/-- 'comitialaw01.BlakeParts', WHERE WHAT IT READS IS OF BULK AT MOST 1048576: true; the input reads as it did. -/
def blakePartsUptoRow : OpenClaim := { program := "ytmilnaiehebalaa", sum := "b5c2076a6409b1031cc7bcf694b7d8ae860c4490ad987dd8d4981e2efc600520", func := "comitia/comitialaw01.BlakeParts", spec := "blakeParts", inPlace := ["internal/abi.NoEscape", "internal/bytealg.MakeNoZero"], apart := false, narrowed := true }
def BlakePartsUptoSaid : Prop := blakePartsUptoRow.holds Try.pinned (OpenSpec.upto blakePartsSpec)

/-- 'comitialaw01.BlakeApart', WHERE WHAT IT READS IS OF BULK AT MOST 1048576: true; the input reads as it did. -/
def blakeApartUptoRow : OpenClaim := { program := "ytmilnaiehebalaa", sum := "b5c2076a6409b1031cc7bcf694b7d8ae860c4490ad987dd8d4981e2efc600520", func := "comitia/comitialaw01.BlakeApart", spec := "blakeApart", inPlace := ["internal/abi.NoEscape", "internal/bytealg.MakeNoZero"], apart := false, narrowed := true }
def BlakeApartUptoSaid : Prop := blakeApartUptoRow.holds Try.pinned (OpenSpec.upto blakeApartSpec)

/-- 'comitialaw01.BlakeBlocks', WHERE WHAT IT READS IS OF BULK AT MOST 1048576: true; the input reads as it did. -/
def blakeBlocksUptoRow : OpenClaim := { program := "ytmilnaiehebalaa", sum := "b5c2076a6409b1031cc7bcf694b7d8ae860c4490ad987dd8d4981e2efc600520", func := "comitia/comitialaw01.BlakeBlocks", spec := "blakeBlocks", inPlace := ["internal/abi.NoEscape", "internal/bytealg.MakeNoZero"], apart := false, narrowed := true }
def BlakeBlocksUptoSaid : Prop := blakeBlocksUptoRow.holds Try.pinned (OpenSpec.upto blakeBlocksSpec)

/-- 'comitialaw01.BlakeKeyed', WHERE WHAT IT READS IS OF BULK AT MOST 1048576: true; the input reads as it did. -/
def blakeKeyedUptoRow : OpenClaim := { program := "ytmilnaiehebalaa", sum := "b5c2076a6409b1031cc7bcf694b7d8ae860c4490ad987dd8d4981e2efc600520", func := "comitia/comitialaw01.BlakeKeyed", spec := "blakeKeyed", inPlace := ["internal/abi.NoEscape", "internal/bytealg.MakeNoZero"], apart := false, narrowed := true }
def BlakeKeyedUptoSaid : Prop := blakeKeyedUptoRow.holds Try.pinned (OpenSpec.upto blakeKeyedSpec)

/-- 'comitialaw03.MacKeys', WHERE WHAT IT READS IS OF BULK AT MOST 1048576: true; the input reads as it did. -/
def macKeysUptoRow : OpenClaim := { program := "ytmilnaiehebalaa", sum := "b5c2076a6409b1031cc7bcf694b7d8ae860c4490ad987dd8d4981e2efc600520", func := "comitia/comitialaw03.MacKeys", spec := "macKeys", inPlace := ["internal/abi.NoEscape", "internal/bytealg.MakeNoZero"], recurses := true, apart := false, narrowed := true }
def MacKeysUptoSaid : Prop := macKeysUptoRow.holds Try.pinned (OpenSpec.upto macKeysSpec)

/-- 'comitialaw03.MacSigns', WHERE WHAT IT READS IS OF BULK AT MOST 1048576: true; the input reads as it did. -/
def macSignsUptoRow : OpenClaim := { program := "ytmilnaiehebalaa", sum := "b5c2076a6409b1031cc7bcf694b7d8ae860c4490ad987dd8d4981e2efc600520", func := "comitia/comitialaw03.MacSigns", spec := "macSigns", inPlace := ["internal/abi.NoEscape", "internal/bytealg.MakeNoZero"], unfollowed := true, recurses := true, apart := false, narrowed := true }
def MacSignsUptoSaid : Prop := macSignsUptoRow.holds Try.pinned (OpenSpec.upto macSignsSpec)

/-- 'comitialaw03.MacHolds', WHERE WHAT IT READS IS OF BULK AT MOST 1048576: true; the input reads as it did. -/
def macHoldsUptoRow : OpenClaim := { program := "ytmilnaiehebalaa", sum := "b5c2076a6409b1031cc7bcf694b7d8ae860c4490ad987dd8d4981e2efc600520", func := "comitia/comitialaw03.MacHolds", spec := "macHolds", inPlace := ["internal/abi.NoEscape", "internal/bytealg.MakeNoZero"], unfollowed := true, recurses := true, apart := false, narrowed := true }
def MacHoldsUptoSaid : Prop := macHoldsUptoRow.holds Try.pinned (OpenSpec.upto macHoldsSpec)

/-- 'comitialaw03.MacBent', WHERE WHAT IT READS IS OF BULK AT MOST 1048576: true; the input reads as it did. -/
def macBentUptoRow : OpenClaim := { program := "ytmilnaiehebalaa", sum := "b5c2076a6409b1031cc7bcf694b7d8ae860c4490ad987dd8d4981e2efc600520", func := "comitia/comitialaw03.MacBent", spec := "macBent", inPlace := ["internal/abi.NoEscape", "internal/bytealg.MakeNoZero"], unfollowed := true, recurses := true, apart := false, narrowed := true }
def MacBentUptoSaid : Prop := macBentUptoRow.holds Try.pinned (OpenSpec.upto macBentSpec)

end Rows
end Go.Proofs.Ytmilnaiehebalaa
