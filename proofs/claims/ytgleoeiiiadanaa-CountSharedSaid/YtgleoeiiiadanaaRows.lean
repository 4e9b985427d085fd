/-
  No cell of these rows narrows 'for every input' (looked for: loops, veiled, ifaces, maps, wideKeys, modest, calm, conditions, laid).
  DERIVED. THE GIVEN ROWS OF THIS SEAT. 10 by the template 'for every input the law returns true; each argument reads behind the call as it read before'; 0 by the template 'total and deterministic' (their statements: YtgleoeiiiadanaaTotals.lean).
  GIVEN WITH THE SEED: the statements are not yours to turn. If you find one false, say at which input.
  Laid BY PROGRAM, IN A SANDBOX (cutbox-rows.mjs): the forced cells as the released guide's own fill.sh prints them over the translation 8e36858d6c2d2929… (all of the seat's roots in one cut). By AI agents, Wed Nov 11 2026. No macro, syntax, notation, axiom, sorry.
-/
import Derived.Test.YtgleoeiiiadanaaChecked
import GoSem.Claim
import GoSem.ClaimJoined
import GoSem.ClaimMapViews
import Derived.JoinedTies
import Derived.KernelRfl
namespace Go.Proofs.Ytgleoeiiiadanaa
/- THE CELL 'sum', in the pinned program and in every row, IS THE sha256 OF THE DUMP (.gsa) THAT YtgleoeiiiadanaaProg.lean LOADS. Nothing in Lean hashes anything: it is a label: what it is worth is what the hold of that sum in a sandbox is worth. -/
noncomputable def Try.pinned : Pinned := { name := "ytgleoeiiiadanaa", sum := "8e36858d6c2d2929ba1079fee98336526e2afa546e35f8888c0d4e2a648833a8", checked := Try.checked }
namespace Rows
def none {H : Type} : Left H := { results := [], args := [] }

/-- 'comitialaw04.CountLists': WHATEVER THE INPUT: true; the input reads as it did. -/
def countListsSpec : ChangeSpec := { name := "countLists", fn := fun _ => fun
  | [d1, d2, d3] => { results := [.lit (.bool true)], args := [d1, d2, d3] }
  | _ => none }
def countListsRow : OpenClaim := { program := "ytgleoeiiiadanaa", sum := "8e36858d6c2d2929ba1079fee98336526e2afa546e35f8888c0d4e2a648833a8", func := "comitia/comitialaw04.CountLists", spec := "countLists", unfollowed := true, recurses := true, plainKeys := false, apart := false }
def CountListsSaid : Prop := countListsRow.holds Try.pinned (OpenSpec.ofChange countListsSpec)

/-- ITS FALSE NEIGHBOUR: 'it returns false'. Refute it at one input. -/
def countListsWrong : ChangeSpec := { name := "countLists", fn := fun _ => fun
  | [d1, d2, d3] => { results := [.lit (.bool false)], args := [d1, d2, d3] }
  | _ => none }
def CountListsWrongFalsely : Prop := countListsRow.holds Try.pinned (OpenSpec.ofChange countListsWrong)

/-- 'comitialaw04.CountShared': WHATEVER THE INPUT: true; the input reads as it did. -/
def countSharedSpec : ChangeSpec := { name := "countShared", fn := fun _ => fun
  | [d1, d2, d3] => { results := [.lit (.bool true)], args := [d1, d2, d3] }
  | _ => none }
def countSharedRow : OpenClaim := { program := "ytgleoeiiiadanaa", sum := "8e36858d6c2d2929ba1079fee98336526e2afa546e35f8888c0d4e2a648833a8", func := "comitia/comitialaw04.CountShared", spec := "countShared", unfollowed := true, recurses := true, plainKeys := false, apart := false }
def CountSharedSaid : Prop := countSharedRow.holds Try.pinned (OpenSpec.ofChange countSharedSpec)

/-- ITS FALSE NEIGHBOUR: 'it returns false'. Refute it at one input. -/
def countSharedWrong : ChangeSpec := { name := "countShared", fn := fun _ => fun
  | [d1, d2, d3] => { results := [.lit (.bool false)], args := [d1, d2, d3] }
  | _ => none }
def CountSharedWrongFalsely : Prop := countSharedRow.holds Try.pinned (OpenSpec.ofChange countSharedWrong)

/-- 'comitialaw16.GatherReady': WHATEVER THE INPUT: true; the input reads as it did. -/
def gatherReadySpec : ChangeSpec := { name := "gatherReady", fn := fun _ => fun
  | [d1, d2, d3] => { results := [.lit (.bool true)], args := [d1, d2, d3] }
  | _ => none }
def gatherReadyRow : OpenClaim := { program := "ytgleoeiiiadanaa", sum := "8e36858d6c2d2929ba1079fee98336526e2afa546e35f8888c0d4e2a648833a8", func := "comitia/comitialaw16.GatherReady", spec := "gatherReady", unfollowed := true, recurses := true, plainKeys := false, apart := false }
def GatherReadySaid : Prop := gatherReadyRow.holds Try.pinned (OpenSpec.ofChange gatherReadySpec)

/-- ITS FALSE NEIGHBOUR: 'it returns false'. Refute it at one input. -/
def gatherReadyWrong : ChangeSpec := { name := "gatherReady", fn := fun _ => fun
  | [d1, d2, d3] => { results := [.lit (.bool false)], args := [d1, d2, d3] }
  | _ => none }
def GatherReadyWrongFalsely : Prop := gatherReadyRow.holds Try.pinned (OpenSpec.ofChange gatherReadyWrong)

/-- 'comitialaw16.GatherRises': WHATEVER THE INPUT: true; the input reads as it did. -/
def gatherRisesSpec : ChangeSpec := { name := "gatherRises", fn := fun _ => fun
  | [d1, d2] => { results := [.lit (.bool true)], args := [d1, d2] }
  | _ => none }
def gatherRisesRow : OpenClaim := { program := "ytgleoeiiiadanaa", sum := "8e36858d6c2d2929ba1079fee98336526e2afa546e35f8888c0d4e2a648833a8", func := "comitia/comitialaw16.GatherRises", spec := "gatherRises", unfollowed := true, recurses := true, plainKeys := false, apart := false }
def GatherRisesSaid : Prop := gatherRisesRow.holds Try.pinned (OpenSpec.ofChange gatherRisesSpec)

/-- ITS FALSE NEIGHBOUR: 'it returns false'. Refute it at one input. -/
def gatherRisesWrong : ChangeSpec := { name := "gatherRises", fn := fun _ => fun
  | [d1, d2] => { results := [.lit (.bool false)], args := [d1, d2] }
  | _ => none }
def GatherRisesWrongFalsely : Prop := gatherRisesRow.holds Try.pinned (OpenSpec.ofChange gatherRisesWrong)

/-- 'comitialaw16.GatherPlays': WHATEVER THE INPUT: true; the input reads as it did. -/
def gatherPlaysSpec : ChangeSpec := { name := "gatherPlays", fn := fun _ => fun
  | [d1, d2, d3] => { results := [.lit (.bool true)], args := [d1, d2, d3] }
  | _ => none }
def gatherPlaysRow : OpenClaim := { program := "ytgleoeiiiadanaa", sum := "8e36858d6c2d2929ba1079fee98336526e2afa546e35f8888c0d4e2a648833a8", func := "comitia/comitialaw16.GatherPlays", spec := "gatherPlays", unfollowed := true, recurses := true, plainKeys := false, apart := false }
def GatherPlaysSaid : Prop := gatherPlaysRow.holds Try.pinned (OpenSpec.ofChange gatherPlaysSpec)

/-- ITS FALSE NEIGHBOUR: 'it returns false'. Refute it at one input. -/
def gatherPlaysWrong : ChangeSpec := { name := "gatherPlays", fn := fun _ => fun
  | [d1, d2, d3] => { results := [.lit (.bool false)], args := [d1, d2, d3] }
  | _ => none }
def GatherPlaysWrongFalsely : Prop := gatherPlaysRow.holds Try.pinned (OpenSpec.ofChange gatherPlaysWrong)

/-- 'comitialaw11.KeepBegins': WHATEVER THE INPUT: true; the input reads as it did. -/
def keepBeginsSpec : ChangeSpec := { name := "keepBegins", fn := fun _ => fun
  | [d1, d2, d3] => { results := [.lit (.bool true)], args := [d1, d2, d3] }
  | _ => none }
def keepBeginsRow : OpenClaim := { program := "ytgleoeiiiadanaa", sum := "8e36858d6c2d2929ba1079fee98336526e2afa546e35f8888c0d4e2a648833a8", func := "comitia/comitialaw11.KeepBegins", spec := "keepBegins", inPlace := ["internal/abi.NoEscape", "internal/bytealg.MakeNoZero"], plainKeys := false, apart := false }
def KeepBeginsSaid : Prop := keepBeginsRow.holds Try.pinned (OpenSpec.ofChange keepBeginsSpec)

/-- ITS FALSE NEIGHBOUR: 'it returns false'. Refute it at one input. -/
def keepBeginsWrong : ChangeSpec := { name := "keepBegins", fn := fun _ => fun
  | [d1, d2, d3] => { results := [.lit (.bool false)], args := [d1, d2, d3] }
  | _ => none }
def KeepBeginsWrongFalsely : Prop := keepBeginsRow.holds Try.pinned (OpenSpec.ofChange keepBeginsWrong)

/-- 'comitialaw13.LedgerDigests': WHATEVER THE INPUT: true; the input reads as it did. -/
def ledgerDigestsSpec : ChangeSpec := { name := "ledgerDigests", fn := fun _ => fun
  | [d1, d2] => { results := [.lit (.bool true)], args := [d1, d2] }
  | _ => none }
def ledgerDigestsRow : OpenClaim := { program := "ytgleoeiiiadanaa", sum := "8e36858d6c2d2929ba1079fee98336526e2afa546e35f8888c0d4e2a648833a8", func := "comitia/comitialaw13.LedgerDigests", spec := "ledgerDigests", inPlace := ["internal/abi.NoEscape", "internal/bytealg.MakeNoZero"], plainKeys := false, apart := false }
def LedgerDigestsSaid : Prop := ledgerDigestsRow.holds Try.pinned (OpenSpec.ofChange ledgerDigestsSpec)

/-- ITS FALSE NEIGHBOUR: 'it returns false'. Refute it at one input. -/
def ledgerDigestsWrong : ChangeSpec := { name := "ledgerDigests", fn := fun _ => fun
  | [d1, d2] => { results := [.lit (.bool false)], args := [d1, d2] }
  | _ => none }
def LedgerDigestsWrongFalsely : Prop := ledgerDigestsRow.holds Try.pinned (OpenSpec.ofChange ledgerDigestsWrong)

/-- 'comitialaw13.LedgerApplies': WHATEVER THE INPUT: true; the input reads as it did. -/
def ledgerAppliesSpec : ChangeSpec := { name := "ledgerApplies", fn := fun _ => fun
  | [d1, d2, d3] => { results := [.lit (.bool true)], args := [d1, d2, d3] }
  | _ => none }
def ledgerAppliesRow : OpenClaim := { program := "ytgleoeiiiadanaa", sum := "8e36858d6c2d2929ba1079fee98336526e2afa546e35f8888c0d4e2a648833a8", func := "comitia/comitialaw13.LedgerApplies", spec := "ledgerApplies", inPlace := ["internal/abi.NoEscape", "internal/bytealg.MakeNoZero"], plainKeys := false, apart := false }
def LedgerAppliesSaid : Prop := ledgerAppliesRow.holds Try.pinned (OpenSpec.ofChange ledgerAppliesSpec)

/-- ITS FALSE NEIGHBOUR: 'it returns false'. Refute it at one input. -/
def ledgerAppliesWrong : ChangeSpec := { name := "ledgerApplies", fn := fun _ => fun
  | [d1, d2, d3] => { results := [.lit (.bool false)], args := [d1, d2, d3] }
  | _ => none }
def LedgerAppliesWrongFalsely : Prop := ledgerAppliesRow.holds Try.pinned (OpenSpec.ofChange ledgerAppliesWrong)

/-- 'comitialaw13.LedgerAgain': WHATEVER THE INPUT: true; the input reads as it did. -/
def ledgerAgainSpec : ChangeSpec := { name := "ledgerAgain", fn := fun _ => fun
  | [d1, d2] => { results := [.lit (.bool true)], args := [d1, d2] }
  | _ => none }
def ledgerAgainRow : OpenClaim := { program := "ytgleoeiiiadanaa", sum := "8e36858d6c2d2929ba1079fee98336526e2afa546e35f8888c0d4e2a648833a8", func := "comitia/comitialaw13.LedgerAgain", spec := "ledgerAgain", inPlace := ["internal/abi.NoEscape", "internal/bytealg.MakeNoZero"], plainKeys := false, apart := false }
def LedgerAgainSaid : Prop := ledgerAgainRow.holds Try.pinned (OpenSpec.ofChange ledgerAgainSpec)

/-- ITS FALSE NEIGHBOUR: 'it returns false'. Refute it at one input. -/
def ledgerAgainWrong : ChangeSpec := { name := "ledgerAgain", fn := fun _ => fun
  | [d1, d2] => { results := [.lit (.bool false)], args := [d1, d2] }
  | _ => none }
def LedgerAgainWrongFalsely : Prop := ledgerAgainRow.holds Try.pinned (OpenSpec.ofChange ledgerAgainWrong)

/-- 'comitialaw13.LedgerParts': WHATEVER THE INPUT: true; the input reads as it did. -/
def ledgerPartsSpec : ChangeSpec := { name := "ledgerParts", fn := fun _ => fun
  | [d] => { results := [.lit (.bool true)], args := [d] }
  | _ => none }
def ledgerPartsRow : OpenClaim := { program := "ytgleoeiiiadanaa", sum := "8e36858d6c2d2929ba1079fee98336526e2afa546e35f8888c0d4e2a648833a8", func := "comitia/comitialaw13.LedgerParts", spec := "ledgerParts", inPlace := ["internal/abi.NoEscape", "internal/bytealg.MakeNoZero"], plainKeys := false, apart := false }
def LedgerPartsSaid : Prop := ledgerPartsRow.holds Try.pinned (OpenSpec.ofChange ledgerPartsSpec)

/-- ITS FALSE NEIGHBOUR: 'it returns false'. Refute it at one input. -/
def ledgerPartsWrong : ChangeSpec := { name := "ledgerParts", fn := fun _ => fun
  | [d] => { results := [.lit (.bool false)], args := [d] }
  | _ => none }
def LedgerPartsWrongFalsely : Prop := ledgerPartsRow.holds Try.pinned (OpenSpec.ofChange ledgerPartsWrong)

/- THE SECOND FORM. 'bulk': how many values and letters a reading holds, each counted each time it is reached (what is shared counts as often as it is met; a slice's spare places count too). A statement '..UptoSaid' is the law's where the arguments, and the package variables that the reading takes, are together of bulk at most 1048576: NARROWER than '..Said'. Prove '..Said' where nothing that the law and all that it calls make is longer than what came in: it says more and counts as full. Else prove '..UptoSaid'. A law counts once. -/
mutual
def uptoBulk {H : Type} : DataW H → Nat
  | .lit (.string bytes) => bytes.length + 1
  | .lit _ => 1
  | .nil => 1
  | .ptr d => uptoBulk d + 1
  | .slice elems spare => uptoBulkAll elems + uptoBulkAll spare + 1
  | .agg parts => uptoBulkAll parts + 1
  | .iface _ d => uptoBulk d + 1
  | .map entries => uptoBulkEntries entries + 1
  | .held _ => 1
def uptoBulkAll {H : Type} : List (DataW H) → Nat
  | [] => 0
  | d :: r => uptoBulk d + uptoBulkAll r
def uptoBulkEntries {H : Type} : List (Lit × DataW H) → Nat
  | [] => 0
  | x :: r => uptoBulkEntry x + uptoBulkEntries r
def uptoBulkEntry {H : Type} : Lit × DataW H → Nat
  | (.string bytes, d) => bytes.length + uptoBulk d + 1
  | (_, d) => uptoBulk d + 1
 end
def uptoSmall : (H : Type) → List (DataW H) → Bool := fun _ ds => decide (uptoBulkAll ds ≤ 1048576)
def OpenSpec.upto (s : _root_.Go.ChangeSpec) : _root_.Go.OpenSpec := { _root_.Go.OpenSpec.ofChange s with cond := some uptoSmall }

/-- 'comitialaw04.CountLists', WHERE WHAT IT READS IS OF BULK AT MOST 1048576: true; the input reads as it did. -/
def countListsUptoRow : OpenClaim := { program := "ytgleoeiiiadanaa", sum := "8e36858d6c2d2929ba1079fee98336526e2afa546e35f8888c0d4e2a648833a8", func := "comitia/comitialaw04.CountLists", spec := "countLists", unfollowed := true, recurses := true, plainKeys := false, apart := false, narrowed := true }
def CountListsUptoSaid : Prop := countListsUptoRow.holds Try.pinned (OpenSpec.upto countListsSpec)

/-- 'comitialaw04.CountShared', WHERE WHAT IT READS IS OF BULK AT MOST 1048576: true; the input reads as it did. -/
def countSharedUptoRow : OpenClaim := { program := "ytgleoeiiiadanaa", sum := "8e36858d6c2d2929ba1079fee98336526e2afa546e35f8888c0d4e2a648833a8", func := "comitia/comitialaw04.CountShared", spec := "countShared", unfollowed := true, recurses := true, plainKeys := false, apart := false, narrowed := true }
def CountSharedUptoSaid : Prop := countSharedUptoRow.holds Try.pinned (OpenSpec.upto countSharedSpec)

/-- 'comitialaw16.GatherReady', WHERE WHAT IT READS IS OF BULK AT MOST 1048576: true; the input reads as it did. -/
def gatherReadyUptoRow : OpenClaim := { program := "ytgleoeiiiadanaa", sum := "8e36858d6c2d2929ba1079fee98336526e2afa546e35f8888c0d4e2a648833a8", func := "comitia/comitialaw16.GatherReady", spec := "gatherReady", unfollowed := true, recurses := true, plainKeys := false, apart := false, narrowed := true }
def GatherReadyUptoSaid : Prop := gatherReadyUptoRow.holds Try.pinned (OpenSpec.upto gatherReadySpec)

/-- 'comitialaw16.GatherRises', WHERE WHAT IT READS IS OF BULK AT MOST 1048576: true; the input reads as it did. -/
def gatherRisesUptoRow : OpenClaim := { program := "ytgleoeiiiadanaa", sum := "8e36858d6c2d2929ba1079fee98336526e2afa546e35f8888c0d4e2a648833a8", func := "comitia/comitialaw16.GatherRises", spec := "gatherRises", unfollowed := true, recurses := true, plainKeys := false, apart := false, narrowed := true }
def GatherRisesUptoSaid : Prop := gatherRisesUptoRow.holds Try.pinned (OpenSpec.upto gatherRisesSpec)

/-- 'comitialaw16.GatherPlays', WHERE WHAT IT READS IS OF BULK AT MOST 1048576: true; the input reads as it did. -/
def gatherPlaysUptoRow : OpenClaim := { program := "ytgleoeiiiadanaa", sum := "8e36858d6c2d2929ba1079fee98336526e2afa546e35f8888c0d4e2a648833a8", func := "comitia/comitialaw16.GatherPlays", spec := "gatherPlays", unfollowed := true, recurses := true, plainKeys := false, apart := false, narrowed := true }
def GatherPlaysUptoSaid : Prop := gatherPlaysUptoRow.holds Try.pinned (OpenSpec.upto gatherPlaysSpec)

/-- 'comitialaw11.KeepBegins', WHERE WHAT IT READS IS OF BULK AT MOST 1048576: true; the input reads as it did. -/
def keepBeginsUptoRow : OpenClaim := { program := "ytgleoeiiiadanaa", sum := "8e36858d6c2d2929ba1079fee98336526e2afa546e35f8888c0d4e2a648833a8", func := "comitia/comitialaw11.KeepBegins", spec := "keepBegins", inPlace := ["internal/abi.NoEscape", "internal/bytealg.MakeNoZero"], plainKeys := false, apart := false, narrowed := true }
def KeepBeginsUptoSaid : Prop := keepBeginsUptoRow.holds Try.pinned (OpenSpec.upto keepBeginsSpec)

/-- 'comitialaw13.LedgerDigests', WHERE WHAT IT READS IS OF BULK AT MOST 1048576: true; the input reads as it did. -/
def ledgerDigestsUptoRow : OpenClaim := { program := "ytgleoeiiiadanaa", sum := "8e36858d6c2d2929ba1079fee98336526e2afa546e35f8888c0d4e2a648833a8", func := "comitia/comitialaw13.LedgerDigests", spec := "ledgerDigests", inPlace := ["internal/abi.NoEscape", "internal/bytealg.MakeNoZero"], plainKeys := false, apart := false, narrowed := true }
def LedgerDigestsUptoSaid : Prop := ledgerDigestsUptoRow.holds Try.pinned (OpenSpec.upto ledgerDigestsSpec)

/-- 'comitialaw13.LedgerApplies', WHERE WHAT IT READS IS OF BULK AT MOST 1048576: true; the input reads as it did. -/
def ledgerAppliesUptoRow : OpenClaim := { program := "ytgleoeiiiadanaa", sum := "8e36858d6c2d2929ba1079fee98336526e2afa546e35f8888c0d4e2a648833a8", func := "comitia/comitialaw13.LedgerApplies", spec := "ledgerApplies", inPlace := ["internal/abi.NoEscape", "internal/bytealg.MakeNoZero"], plainKeys := false, apart := false, narrowed := true }
def LedgerAppliesUptoSaid : Prop := ledgerAppliesUptoRow.holds Try.pinned (OpenSpec.upto ledgerAppliesSpec)

/-- 'comitialaw13.LedgerAgain', WHERE WHAT IT READS IS OF BULK AT MOST 1048576: true; the input reads as it did. -/
def ledgerAgainUptoRow : OpenClaim := { program := "ytgleoeiiiadanaa", sum := "8e36858d6c2d2929ba1079fee98336526e2afa546e35f8888c0d4e2a648833a8", func := "comitia/comitialaw13.LedgerAgain", spec := "ledgerAgain", inPlace := ["internal/abi.NoEscape", "internal/bytealg.MakeNoZero"], plainKeys := false, apart := false, narrowed := true }
def LedgerAgainUptoSaid : Prop := ledgerAgainUptoRow.holds Try.pinned (OpenSpec.upto ledgerAgainSpec)

/-- 'comitialaw13.LedgerParts', WHERE WHAT IT READS IS OF BULK AT MOST 1048576: true; the input reads as it did. -/
def ledgerPartsUptoRow : OpenClaim := { program := "ytgleoeiiiadanaa", sum := "8e36858d6c2d2929ba1079fee98336526e2afa546e35f8888c0d4e2a648833a8", func := "comitia/comitialaw13.LedgerParts", spec := "ledgerParts", inPlace := ["internal/abi.NoEscape", "internal/bytealg.MakeNoZero"], plainKeys := false, apart := false, narrowed := true }
def LedgerPartsUptoSaid : Prop := ledgerPartsUptoRow.holds Try.pinned (OpenSpec.upto ledgerPartsSpec)

end Rows
end Go.Proofs.Ytgleoeiiiadanaa
