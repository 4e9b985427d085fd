/-
  No cell of these rows narrows 'for every input' (looked for: loops, veiled, ifaces, maps, wideKeys, modest, calm, conditions, laid).
  DERIVED. THE GIVEN ROWS OF THIS SEAT. 8 by the template 'for every input the law returns true; each argument reads behind the call as it read before'; 0 by the template 'total and deterministic' (their statements: YtnomgkmeomlccaaTotals.lean).
  GIVEN WITH THE SEED: the statements are not yours to turn. If you find one false, say at which input.
  Laid BY PROGRAM, IN A SANDBOX (cutbox-rows.mjs): the forced cells as the released guide's own fill.sh prints them over the translation 266393ba13858b0a… (all of the seat's roots in one cut). By AI agents, Wed Nov 11 2026. No macro, syntax, notation, axiom, sorry.
-/
import Derived.Test.YtnomgkmeomlccaaChecked
import GoSem.Claim
import GoSem.ClaimJoined
import GoSem.ClaimMapViews
import Derived.JoinedTies
import Derived.KernelRfl
namespace Go.Proofs.Ytnomgkmeomlccaa
/- THE CELL 'sum', in the pinned program and in every row, IS THE sha256 OF THE DUMP (.gsa) THAT YtnomgkmeomlccaaProg.lean LOADS. Nothing in Lean hashes anything: it is a label: what it is worth is what the hold of that sum in a sandbox is worth. -/
noncomputable def Try.pinned : Pinned := { name := "ytnomgkmeomlccaa", sum := "266393ba13858b0a7ff6d15a9fbe03d85147365444dbf80529e2c54e1cccd970", checked := Try.checked }
namespace Rows
def none {H : Type} : Left H := { results := [], args := [] }

/-- 'comitialaw11.KeepOnce': WHATEVER THE INPUT: true; the input reads as it did. -/
def keepOnceSpec : ChangeSpec := { name := "keepOnce", fn := fun _ => fun
  | [d] => { results := [.lit (.bool true)], args := [d] }
  | _ => none }
def keepOnceRow : OpenClaim := { program := "ytnomgkmeomlccaa", sum := "266393ba13858b0a7ff6d15a9fbe03d85147365444dbf80529e2c54e1cccd970", func := "comitia/comitialaw11.KeepOnce", spec := "keepOnce", inPlace := ["internal/abi.NoEscape", "internal/bytealg.MakeNoZero"], plainKeys := false, apart := false }
def KeepOnceSaid : Prop := keepOnceRow.holds Try.pinned (OpenSpec.ofChange keepOnceSpec)

/-- ITS FALSE NEIGHBOUR: 'it returns false'. Refute it at one input. -/
def keepOnceWrong : ChangeSpec := { name := "keepOnce", fn := fun _ => fun
  | [d] => { results := [.lit (.bool false)], args := [d] }
  | _ => none }
def KeepOnceWrongFalsely : Prop := keepOnceRow.holds Try.pinned (OpenSpec.ofChange keepOnceWrong)

/-- 'comitialaw06.BlockMakes': WHATEVER THE INPUT: true; the input reads as it did. -/
def blockMakesSpec : ChangeSpec := { name := "blockMakes", fn := fun _ => fun
  | [d1, d2, d3] => { results := [.lit (.bool true)], args := [d1, d2, d3] }
  | _ => none }
def blockMakesRow : OpenClaim := { program := "ytnomgkmeomlccaa", sum := "266393ba13858b0a7ff6d15a9fbe03d85147365444dbf80529e2c54e1cccd970", func := "comitia/comitialaw06.BlockMakes", spec := "blockMakes", inPlace := ["internal/abi.NoEscape", "internal/bytealg.MakeNoZero"], unfollowed := true, recurses := true, plainKeys := false, apart := false }
def BlockMakesSaid : Prop := blockMakesRow.holds Try.pinned (OpenSpec.ofChange blockMakesSpec)

/-- ITS FALSE NEIGHBOUR: 'it returns false'. Refute it at one input. -/
def blockMakesWrong : ChangeSpec := { name := "blockMakes", fn := fun _ => fun
  | [d1, d2, d3] => { results := [.lit (.bool false)], args := [d1, d2, d3] }
  | _ => none }
def BlockMakesWrongFalsely : Prop := blockMakesRow.holds Try.pinned (OpenSpec.ofChange blockMakesWrong)

/-- 'comitialaw06.BlockDigests': WHATEVER THE INPUT: true; the input reads as it did. -/
def blockDigestsSpec : ChangeSpec := { name := "blockDigests", fn := fun _ => fun
  | [d1, d2] => { results := [.lit (.bool true)], args := [d1, d2] }
  | _ => none }
def blockDigestsRow : OpenClaim := { program := "ytnomgkmeomlccaa", sum := "266393ba13858b0a7ff6d15a9fbe03d85147365444dbf80529e2c54e1cccd970", func := "comitia/comitialaw06.BlockDigests", spec := "blockDigests", inPlace := ["internal/abi.NoEscape", "internal/bytealg.MakeNoZero"], unfollowed := true, recurses := true, plainKeys := false, apart := false }
def BlockDigestsSaid : Prop := blockDigestsRow.holds Try.pinned (OpenSpec.ofChange blockDigestsSpec)

/-- ITS FALSE NEIGHBOUR: 'it returns false'. Refute it at one input. -/
def blockDigestsWrong : ChangeSpec := { name := "blockDigests", fn := fun _ => fun
  | [d1, d2] => { results := [.lit (.bool false)], args := [d1, d2] }
  | _ => none }
def BlockDigestsWrongFalsely : Prop := blockDigestsRow.holds Try.pinned (OpenSpec.ofChange blockDigestsWrong)

/-- 'comitialaw06.BlockTrue': WHATEVER THE INPUT: true; the input reads as it did. -/
def blockTrueSpec : ChangeSpec := { name := "blockTrue", fn := fun _ => fun
  | [d1, d2, d3] => { results := [.lit (.bool true)], args := [d1, d2, d3] }
  | _ => none }
def blockTrueRow : OpenClaim := { program := "ytnomgkmeomlccaa", sum := "266393ba13858b0a7ff6d15a9fbe03d85147365444dbf80529e2c54e1cccd970", func := "comitia/comitialaw06.BlockTrue", spec := "blockTrue", inPlace := ["internal/abi.NoEscape", "internal/bytealg.MakeNoZero"], unfollowed := true, recurses := true, plainKeys := false, apart := false }
def BlockTrueSaid : Prop := blockTrueRow.holds Try.pinned (OpenSpec.ofChange blockTrueSpec)

/-- ITS FALSE NEIGHBOUR: 'it returns false'. Refute it at one input. -/
def blockTrueWrong : ChangeSpec := { name := "blockTrue", fn := fun _ => fun
  | [d1, d2, d3] => { results := [.lit (.bool false)], args := [d1, d2, d3] }
  | _ => none }
def BlockTrueWrongFalsely : Prop := blockTrueRow.holds Try.pinned (OpenSpec.ofChange blockTrueWrong)

/-- 'comitialaw07.ForestFull': WHATEVER THE INPUT: true; the input reads as it did. -/
def forestFullSpec : ChangeSpec := { name := "forestFull", fn := fun _ => fun
  | [d] => { results := [.lit (.bool true)], args := [d] }
  | _ => none }
def forestFullRow : OpenClaim := { program := "ytnomgkmeomlccaa", sum := "266393ba13858b0a7ff6d15a9fbe03d85147365444dbf80529e2c54e1cccd970", func := "comitia/comitialaw07.ForestFull", spec := "forestFull", inPlace := ["internal/abi.NoEscape", "internal/bytealg.MakeNoZero"], unfollowed := true, recurses := true, plainKeys := false, apart := false }
def ForestFullSaid : Prop := forestFullRow.holds Try.pinned (OpenSpec.ofChange forestFullSpec)

/-- ITS FALSE NEIGHBOUR: 'it returns false'. Refute it at one input. -/
def forestFullWrong : ChangeSpec := { name := "forestFull", fn := fun _ => fun
  | [d] => { results := [.lit (.bool false)], args := [d] }
  | _ => none }
def ForestFullWrongFalsely : Prop := forestFullRow.holds Try.pinned (OpenSpec.ofChange forestFullWrong)

/-- 'comitialaw07.ForestPaths': WHATEVER THE INPUT: true; the input reads as it did. -/
def forestPathsSpec : ChangeSpec := { name := "forestPaths", fn := fun _ => fun
  | [d1, d2] => { results := [.lit (.bool true)], args := [d1, d2] }
  | _ => none }
def forestPathsRow : OpenClaim := { program := "ytnomgkmeomlccaa", sum := "266393ba13858b0a7ff6d15a9fbe03d85147365444dbf80529e2c54e1cccd970", func := "comitia/comitialaw07.ForestPaths", spec := "forestPaths", inPlace := ["internal/abi.NoEscape", "internal/bytealg.MakeNoZero"], unfollowed := true, recurses := true, plainKeys := false, apart := false }
def ForestPathsSaid : Prop := forestPathsRow.holds Try.pinned (OpenSpec.ofChange forestPathsSpec)

/-- ITS FALSE NEIGHBOUR: 'it returns false'. Refute it at one input. -/
def forestPathsWrong : ChangeSpec := { name := "forestPaths", fn := fun _ => fun
  | [d1, d2] => { results := [.lit (.bool false)], args := [d1, d2] }
  | _ => none }
def ForestPathsWrongFalsely : Prop := forestPathsRow.holds Try.pinned (OpenSpec.ofChange forestPathsWrong)

/-- 'comitialaw07.ForestPlays': WHATEVER THE INPUT: true; the input reads as it did. -/
def forestPlaysSpec : ChangeSpec := { name := "forestPlays", fn := fun _ => fun
  | [d1, d2, d3] => { results := [.lit (.bool true)], args := [d1, d2, d3] }
  | _ => none }
def forestPlaysRow : OpenClaim := { program := "ytnomgkmeomlccaa", sum := "266393ba13858b0a7ff6d15a9fbe03d85147365444dbf80529e2c54e1cccd970", func := "comitia/comitialaw07.ForestPlays", spec := "forestPlays", inPlace := ["internal/abi.NoEscape", "internal/bytealg.MakeNoZero"], unfollowed := true, recurses := true, plainKeys := false, apart := false }
def ForestPlaysSaid : Prop := forestPlaysRow.holds Try.pinned (OpenSpec.ofChange forestPlaysSpec)

/-- ITS FALSE NEIGHBOUR: 'it returns false'. Refute it at one input. -/
def forestPlaysWrong : ChangeSpec := { name := "forestPlays", fn := fun _ => fun
  | [d1, d2, d3] => { results := [.lit (.bool false)], args := [d1, d2, d3] }
  | _ => none }
def ForestPlaysWrongFalsely : Prop := forestPlaysRow.holds Try.pinned (OpenSpec.ofChange forestPlaysWrong)

/-- 'comitialaw08.RuleLearns': WHATEVER THE INPUT: true; the input reads as it did. -/
def ruleLearnsSpec : ChangeSpec := { name := "ruleLearns", fn := fun _ => fun
  | [d1, d2, d3] => { results := [.lit (.bool true)], args := [d1, d2, d3] }
  | _ => none }
def ruleLearnsRow : OpenClaim := { program := "ytnomgkmeomlccaa", sum := "266393ba13858b0a7ff6d15a9fbe03d85147365444dbf80529e2c54e1cccd970", func := "comitia/comitialaw08.RuleLearns", spec := "ruleLearns", inPlace := ["internal/abi.NoEscape", "internal/bytealg.MakeNoZero"], unfollowed := true, recurses := true, plainKeys := false, apart := false }
def RuleLearnsSaid : Prop := ruleLearnsRow.holds Try.pinned (OpenSpec.ofChange ruleLearnsSpec)

/-- ITS FALSE NEIGHBOUR: 'it returns false'. Refute it at one input. -/
def ruleLearnsWrong : ChangeSpec := { name := "ruleLearns", fn := fun _ => fun
  | [d1, d2, d3] => { results := [.lit (.bool false)], args := [d1, d2, d3] }
  | _ => none }
def RuleLearnsWrongFalsely : Prop := ruleLearnsRow.holds Try.pinned (OpenSpec.ofChange ruleLearnsWrong)

/- THE SECOND FORM. 'bulk': how many values and letters a reading holds, each counted each time it is reached (what is shared counts as often as it is met; a slice's spare places count too). A statement '..UptoSaid' is the law's where the arguments, and the package variables that the reading takes, are together of bulk at most 1048576: NARROWER than '..Said'. Prove '..Said' where nothing that the law and all that it calls make is longer than what came in: it says more and counts as full. Else prove '..UptoSaid'. A law counts once. -/
mutual
def uptoBulk {H : Type} : DataW H → Nat
  | .lit (.string bytes) => bytes.length + 1
  | .lit _ => 1
  | .nil => 1
  | .ptr d => uptoBulk d + 1
  | .slice elems spare => uptoBulkAll elems + uptoBulkAll spare + 1
  | .agg parts => uptoBulkAll parts + 1
  | .iface _ d => uptoBulk d + 1
  | .map entries => uptoBulkEntries entries + 1
  | .held _ => 1
def uptoBulkAll {H : Type} : List (DataW H) → Nat
  | [] => 0
  | d :: r => uptoBulk d + uptoBulkAll r
def uptoBulkEntries {H : Type} : List (Lit × DataW H) → Nat
  | [] => 0
  | x :: r => uptoBulkEntry x + uptoBulkEntries r
def uptoBulkEntry {H : Type} : Lit × DataW H → Nat
  | (.string bytes, d) => bytes.length + uptoBulk d + 1
  | (_, d) => uptoBulk d + 1
 end
def uptoSmall : (H : Type) → List (DataW H) → Bool := fun _ ds => decide (uptoBulkAll ds ≤ 1048576)
def OpenSpec.upto (s : _root_.Go.ChangeSpec) : _root_.Go.OpenSpec := { _root_.Go.OpenSpec.ofChange s with cond := some uptoSmall }

/-- 'comitialaw11.KeepOnce', WHERE WHAT IT READS IS OF BULK AT MOST 1048576: true; the input reads as it did. -/
def keepOnceUptoRow : OpenClaim := { program := "ytnomgkmeomlccaa", sum := "266393ba13858b0a7ff6d15a9fbe03d85147365444dbf80529e2c54e1cccd970", func := "comitia/comitialaw11.KeepOnce", spec := "keepOnce", inPlace := ["internal/abi.NoEscape", "internal/bytealg.MakeNoZero"], plainKeys := false, apart := false, narrowed := true }
def KeepOnceUptoSaid : Prop := keepOnceUptoRow.holds Try.pinned (OpenSpec.upto keepOnceSpec)

/-- 'comitialaw06.BlockMakes', WHERE WHAT IT READS IS OF BULK AT MOST 1048576: true; the input reads as it did. -/
def blockMakesUptoRow : OpenClaim := { program := "ytnomgkmeomlccaa", sum := "266393ba13858b0a7ff6d15a9fbe03d85147365444dbf80529e2c54e1cccd970", func := "comitia/comitialaw06.BlockMakes", spec := "blockMakes", inPlace := ["internal/abi.NoEscape", "internal/bytealg.MakeNoZero"], unfollowed := true, recurses := true, plainKeys := false, apart := false, narrowed := true }
def BlockMakesUptoSaid : Prop := blockMakesUptoRow.holds Try.pinned (OpenSpec.upto blockMakesSpec)

/-- 'comitialaw06.BlockDigests', WHERE WHAT IT READS IS OF BULK AT MOST 1048576: true; the input reads as it did. -/
def blockDigestsUptoRow : OpenClaim := { program := "ytnomgkmeomlccaa", sum := "266393ba13858b0a7ff6d15a9fbe03d85147365444dbf80529e2c54e1cccd970", func := "comitia/comitialaw06.BlockDigests", spec := "blockDigests", inPlace := ["internal/abi.NoEscape", "internal/bytealg.MakeNoZero"], unfollowed := true, recurses := true, plainKeys := false, apart := false, narrowed := true }
def BlockDigestsUptoSaid : Prop := blockDigestsUptoRow.holds Try.pinned (OpenSpec.upto blockDigestsSpec)

/-- 'comitialaw06.BlockTrue', WHERE WHAT IT READS IS OF BULK AT MOST 1048576: true; the input reads as it did. -/
def blockTrueUptoRow : OpenClaim := { program := "ytnomgkmeomlccaa", sum := "266393ba13858b0a7ff6d15a9fbe03d85147365444dbf80529e2c54e1cccd970", func := "comitia/comitialaw06.BlockTrue", spec := "blockTrue", inPlace := ["internal/abi.NoEscape", "internal/bytealg.MakeNoZero"], unfollowed := true, recurses := true, plainKeys := false, apart := false, narrowed := true }
def BlockTrueUptoSaid : Prop := blockTrueUptoRow.holds Try.pinned (OpenSpec.upto blockTrueSpec)

/-- 'comitialaw07.ForestFull', WHERE WHAT IT READS IS OF BULK AT MOST 1048576: true; the input reads as it did. -/
def forestFullUptoRow : OpenClaim := { program := "ytnomgkmeomlccaa", sum := "266393ba13858b0a7ff6d15a9fbe03d85147365444dbf80529e2c54e1cccd970", func := "comitia/comitialaw07.ForestFull", spec := "forestFull", inPlace := ["internal/abi.NoEscape", "internal/bytealg.MakeNoZero"], unfollowed := true, recurses := true, plainKeys := false, apart := false, narrowed := true }
def ForestFullUptoSaid : Prop := forestFullUptoRow.holds Try.pinned (OpenSpec.upto forestFullSpec)

/-- 'comitialaw07.ForestPaths', WHERE WHAT IT READS IS OF BULK AT MOST 1048576: true; the input reads as it did. -/
def forestPathsUptoRow : OpenClaim := { program := "ytnomgkmeomlccaa", sum := "266393ba13858b0a7ff6d15a9fbe03d85147365444dbf80529e2c54e1cccd970", func := "comitia/comitialaw07.ForestPaths", spec := "forestPaths", inPlace := ["internal/abi.NoEscape", "internal/bytealg.MakeNoZero"], unfollowed := true, recurses := true, plainKeys := false, apart := false, narrowed := true }
def ForestPathsUptoSaid : Prop := forestPathsUptoRow.holds Try.pinned (OpenSpec.upto forestPathsSpec)

/-- 'comitialaw07.ForestPlays', WHERE WHAT IT READS IS OF BULK AT MOST 1048576: true; the input reads as it did. -/
def forestPlaysUptoRow : OpenClaim := { program := "ytnomgkmeomlccaa", sum := "266393ba13858b0a7ff6d15a9fbe03d85147365444dbf80529e2c54e1cccd970", func := "comitia/comitialaw07.ForestPlays", spec := "forestPlays", inPlace := ["internal/abi.NoEscape", "internal/bytealg.MakeNoZero"], unfollowed := true, recurses := true, plainKeys := false, apart := false, narrowed := true }
def ForestPlaysUptoSaid : Prop := forestPlaysUptoRow.holds Try.pinned (OpenSpec.upto forestPlaysSpec)

/-- 'comitialaw08.RuleLearns', WHERE WHAT IT READS IS OF BULK AT MOST 1048576: true; the input reads as it did. -/
def ruleLearnsUptoRow : OpenClaim := { program := "ytnomgkmeomlccaa", sum := "266393ba13858b0a7ff6d15a9fbe03d85147365444dbf80529e2c54e1cccd970", func := "comitia/comitialaw08.RuleLearns", spec := "ruleLearns", inPlace := ["internal/abi.NoEscape", "internal/bytealg.MakeNoZero"], unfollowed := true, recurses := true, plainKeys := false, apart := false, narrowed := true }
def RuleLearnsUptoSaid : Prop := ruleLearnsUptoRow.holds Try.pinned (OpenSpec.upto ruleLearnsSpec)

end Rows
end Go.Proofs.Ytnomgkmeomlccaa
