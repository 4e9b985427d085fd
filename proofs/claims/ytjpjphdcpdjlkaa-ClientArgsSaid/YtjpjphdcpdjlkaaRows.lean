/-
  No cell of these rows narrows 'for every input' (looked for: loops, veiled, ifaces, maps, wideKeys, modest, calm, conditions, laid).
  DERIVED. THE GIVEN ROWS OF THIS SEAT. 11 by the template 'for every input the law returns true; each argument reads behind the call as it read before'; 0 by the template 'total and deterministic' (their statements: YtjpjphdcpdjlkaaTotals.lean).
  GIVEN WITH THE SEED: the statements are not yours to turn. If you find one false, say at which input.
  Laid BY PROGRAM, IN A SANDBOX (cutbox-rows.mjs): the forced cells as the released guide's own fill.sh prints them over the translation ad00979bc4335d77… (all of the seat's roots in one cut). By AI agents, Wed Nov 11 2026. No macro, syntax, notation, axiom, sorry.
-/
import Derived.Test.YtjpjphdcpdjlkaaChecked
import GoSem.Claim
import GoSem.ClaimJoined
import GoSem.ClaimMapViews
import Derived.JoinedTies
import Derived.KernelRfl
namespace Go.Proofs.Ytjpjphdcpdjlkaa
/- THE CELL 'sum', in the pinned program and in every row, IS THE sha256 OF THE DUMP (.gsa) THAT YtjpjphdcpdjlkaaProg.lean LOADS. Nothing in Lean hashes anything: it is a label: what it is worth is what the hold of that sum in a sandbox is worth. -/
noncomputable def Try.pinned : Pinned := { name := "ytjpjphdcpdjlkaa", sum := "ad00979bc4335d77931b44fcc24e2bfe563634805107ecf11a0ec35715618a2b", checked := Try.checked }
namespace Rows
def none {H : Type} : Left H := { results := [], args := [] }

/-- 'comitialaw04.CountSizes': WHATEVER THE INPUT: true; the input reads as it did. -/
def countSizesSpec : ChangeSpec := { name := "countSizes", fn := fun _ => fun
  | [d] => { results := [.lit (.bool true)], args := [d] }
  | _ => none }
def countSizesRow : OpenClaim := { program := "ytjpjphdcpdjlkaa", sum := "ad00979bc4335d77931b44fcc24e2bfe563634805107ecf11a0ec35715618a2b", func := "comitia/comitialaw04.CountSizes", spec := "countSizes", apart := false }
def CountSizesSaid : Prop := countSizesRow.holds Try.pinned (OpenSpec.ofChange countSizesSpec)

/-- ITS FALSE NEIGHBOUR: 'it returns false'. Refute it at one input. -/
def countSizesWrong : ChangeSpec := { name := "countSizes", fn := fun _ => fun
  | [d] => { results := [.lit (.bool false)], args := [d] }
  | _ => none }
def CountSizesWrongFalsely : Prop := countSizesRow.holds Try.pinned (OpenSpec.ofChange countSizesWrong)

/-- 'comitialaw15.TimerSpans': WHATEVER THE INPUT: true; the input reads as it did. -/
def timerSpansSpec : ChangeSpec := { name := "timerSpans", fn := fun _ => fun
  | [d] => { results := [.lit (.bool true)], args := [d] }
  | _ => none }
def timerSpansRow : OpenClaim := { program := "ytjpjphdcpdjlkaa", sum := "ad00979bc4335d77931b44fcc24e2bfe563634805107ecf11a0ec35715618a2b", func := "comitia/comitialaw15.TimerSpans", spec := "timerSpans", apart := false }
def TimerSpansSaid : Prop := timerSpansRow.holds Try.pinned (OpenSpec.ofChange timerSpansSpec)

/-- ITS FALSE NEIGHBOUR: 'it returns false'. Refute it at one input. -/
def timerSpansWrong : ChangeSpec := { name := "timerSpans", fn := fun _ => fun
  | [d] => { results := [.lit (.bool false)], args := [d] }
  | _ => none }
def TimerSpansWrongFalsely : Prop := timerSpansRow.holds Try.pinned (OpenSpec.ofChange timerSpansWrong)

/-- 'comitialaw08.RuleOnce': WHATEVER THE INPUT: true; the input reads as it did. -/
def ruleOnceSpec : ChangeSpec := { name := "ruleOnce", fn := fun _ => fun
  | [d1, d2] => { results := [.lit (.bool true)], args := [d1, d2] }
  | _ => none }
def ruleOnceRow : OpenClaim := { program := "ytjpjphdcpdjlkaa", sum := "ad00979bc4335d77931b44fcc24e2bfe563634805107ecf11a0ec35715618a2b", func := "comitia/comitialaw08.RuleOnce", spec := "ruleOnce", apart := false }
def RuleOnceSaid : Prop := ruleOnceRow.holds Try.pinned (OpenSpec.ofChange ruleOnceSpec)

/-- ITS FALSE NEIGHBOUR: 'it returns false'. Refute it at one input. -/
def ruleOnceWrong : ChangeSpec := { name := "ruleOnce", fn := fun _ => fun
  | [d1, d2] => { results := [.lit (.bool false)], args := [d1, d2] }
  | _ => none }
def RuleOnceWrongFalsely : Prop := ruleOnceRow.holds Try.pinned (OpenSpec.ofChange ruleOnceWrong)

/-- 'comitialaw08.RuleVotes': WHATEVER THE INPUT: true; the input reads as it did. -/
def ruleVotesSpec : ChangeSpec := { name := "ruleVotes", fn := fun _ => fun
  | [d1, d2, d3] => { results := [.lit (.bool true)], args := [d1, d2, d3] }
  | _ => none }
def ruleVotesRow : OpenClaim := { program := "ytjpjphdcpdjlkaa", sum := "ad00979bc4335d77931b44fcc24e2bfe563634805107ecf11a0ec35715618a2b", func := "comitia/comitialaw08.RuleVotes", spec := "ruleVotes", apart := false }
def RuleVotesSaid : Prop := ruleVotesRow.holds Try.pinned (OpenSpec.ofChange ruleVotesSpec)

/-- ITS FALSE NEIGHBOUR: 'it returns false'. Refute it at one input. -/
def ruleVotesWrong : ChangeSpec := { name := "ruleVotes", fn := fun _ => fun
  | [d1, d2, d3] => { results := [.lit (.bool false)], args := [d1, d2, d3] }
  | _ => none }
def RuleVotesWrongFalsely : Prop := ruleVotesRow.holds Try.pinned (OpenSpec.ofChange ruleVotesWrong)

/-- 'comitialaw04.CountLeaders': WHATEVER THE INPUT: true; the input reads as it did. -/
def countLeadersSpec : ChangeSpec := { name := "countLeaders", fn := fun _ => fun
  | [d1, d2] => { results := [.lit (.bool true)], args := [d1, d2] }
  | _ => none }
def countLeadersRow : OpenClaim := { program := "ytjpjphdcpdjlkaa", sum := "ad00979bc4335d77931b44fcc24e2bfe563634805107ecf11a0ec35715618a2b", func := "comitia/comitialaw04.CountLeaders", spec := "countLeaders", apart := false }
def CountLeadersSaid : Prop := countLeadersRow.holds Try.pinned (OpenSpec.ofChange countLeadersSpec)

/-- ITS FALSE NEIGHBOUR: 'it returns false'. Refute it at one input. -/
def countLeadersWrong : ChangeSpec := { name := "countLeaders", fn := fun _ => fun
  | [d1, d2] => { results := [.lit (.bool false)], args := [d1, d2] }
  | _ => none }
def CountLeadersWrongFalsely : Prop := countLeadersRow.holds Try.pinned (OpenSpec.ofChange countLeadersWrong)

/-- 'comitialaw19.ClientArgs': WHATEVER THE INPUT: true; the input reads as it did. -/
def clientArgsSpec : ChangeSpec := { name := "clientArgs", fn := fun _ => fun
  | [d1, d2] => { results := [.lit (.bool true)], args := [d1, d2] }
  | _ => none }
def clientArgsRow : OpenClaim := { program := "ytjpjphdcpdjlkaa", sum := "ad00979bc4335d77931b44fcc24e2bfe563634805107ecf11a0ec35715618a2b", func := "comitia/comitialaw19.ClientArgs", spec := "clientArgs", apart := false }
def ClientArgsSaid : Prop := clientArgsRow.holds Try.pinned (OpenSpec.ofChange clientArgsSpec)

/-- ITS FALSE NEIGHBOUR: 'it returns false'. Refute it at one input. -/
def clientArgsWrong : ChangeSpec := { name := "clientArgs", fn := fun _ => fun
  | [d1, d2] => { results := [.lit (.bool false)], args := [d1, d2] }
  | _ => none }
def ClientArgsWrongFalsely : Prop := clientArgsRow.holds Try.pinned (OpenSpec.ofChange clientArgsWrong)

/-- 'comitialaw15.TimerFails': WHATEVER THE INPUT: true; the input reads as it did. -/
def timerFailsSpec : ChangeSpec := { name := "timerFails", fn := fun _ => fun
  | [d] => { results := [.lit (.bool true)], args := [d] }
  | _ => none }
def timerFailsRow : OpenClaim := { program := "ytjpjphdcpdjlkaa", sum := "ad00979bc4335d77931b44fcc24e2bfe563634805107ecf11a0ec35715618a2b", func := "comitia/comitialaw15.TimerFails", spec := "timerFails", apart := false }
def TimerFailsSaid : Prop := timerFailsRow.holds Try.pinned (OpenSpec.ofChange timerFailsSpec)

/-- ITS FALSE NEIGHBOUR: 'it returns false'. Refute it at one input. -/
def timerFailsWrong : ChangeSpec := { name := "timerFails", fn := fun _ => fun
  | [d] => { results := [.lit (.bool false)], args := [d] }
  | _ => none }
def TimerFailsWrongFalsely : Prop := timerFailsRow.holds Try.pinned (OpenSpec.ofChange timerFailsWrong)

/-- 'comitialaw15.TimerHalts': WHATEVER THE INPUT: true; the input reads as it did. -/
def timerHaltsSpec : ChangeSpec := { name := "timerHalts", fn := fun _ => fun
  | [d] => { results := [.lit (.bool true)], args := [d] }
  | _ => none }
def timerHaltsRow : OpenClaim := { program := "ytjpjphdcpdjlkaa", sum := "ad00979bc4335d77931b44fcc24e2bfe563634805107ecf11a0ec35715618a2b", func := "comitia/comitialaw15.TimerHalts", spec := "timerHalts", apart := false }
def TimerHaltsSaid : Prop := timerHaltsRow.holds Try.pinned (OpenSpec.ofChange timerHaltsSpec)

/-- ITS FALSE NEIGHBOUR: 'it returns false'. Refute it at one input. -/
def timerHaltsWrong : ChangeSpec := { name := "timerHalts", fn := fun _ => fun
  | [d] => { results := [.lit (.bool false)], args := [d] }
  | _ => none }
def TimerHaltsWrongFalsely : Prop := timerHaltsRow.holds Try.pinned (OpenSpec.ofChange timerHaltsWrong)

/-- 'comitialaw08.RuleBytes': WHATEVER THE INPUT: true; the input reads as it did. -/
def ruleBytesSpec : ChangeSpec := { name := "ruleBytes", fn := fun _ => fun
  | [d1, d2] => { results := [.lit (.bool true)], args := [d1, d2] }
  | _ => none }
def ruleBytesRow : OpenClaim := { program := "ytjpjphdcpdjlkaa", sum := "ad00979bc4335d77931b44fcc24e2bfe563634805107ecf11a0ec35715618a2b", func := "comitia/comitialaw08.RuleBytes", spec := "ruleBytes", apart := false }
def RuleBytesSaid : Prop := ruleBytesRow.holds Try.pinned (OpenSpec.ofChange ruleBytesSpec)

/-- ITS FALSE NEIGHBOUR: 'it returns false'. Refute it at one input. -/
def ruleBytesWrong : ChangeSpec := { name := "ruleBytes", fn := fun _ => fun
  | [d1, d2] => { results := [.lit (.bool false)], args := [d1, d2] }
  | _ => none }
def RuleBytesWrongFalsely : Prop := ruleBytesRow.holds Try.pinned (OpenSpec.ofChange ruleBytesWrong)

/-- 'comitialaw15.TimerPlays': WHATEVER THE INPUT: true; the input reads as it did. -/
def timerPlaysSpec : ChangeSpec := { name := "timerPlays", fn := fun _ => fun
  | [d1, d2] => { results := [.lit (.bool true)], args := [d1, d2] }
  | _ => none }
def timerPlaysRow : OpenClaim := { program := "ytjpjphdcpdjlkaa", sum := "ad00979bc4335d77931b44fcc24e2bfe563634805107ecf11a0ec35715618a2b", func := "comitia/comitialaw15.TimerPlays", spec := "timerPlays", apart := false }
def TimerPlaysSaid : Prop := timerPlaysRow.holds Try.pinned (OpenSpec.ofChange timerPlaysSpec)

/-- ITS FALSE NEIGHBOUR: 'it returns false'. Refute it at one input. -/
def timerPlaysWrong : ChangeSpec := { name := "timerPlays", fn := fun _ => fun
  | [d1, d2] => { results := [.lit (.bool false)], args := [d1, d2] }
  | _ => none }
def TimerPlaysWrongFalsely : Prop := timerPlaysRow.holds Try.pinned (OpenSpec.ofChange timerPlaysWrong)

/-- 'comitialaw22.HistoryOrder': WHATEVER THE INPUT: true; the input reads as it did. -/
def historyOrderSpec : ChangeSpec := { name := "historyOrder", fn := fun _ => fun
  | [d] => { results := [.lit (.bool true)], args := [d] }
  | _ => none }
def historyOrderRow : OpenClaim := { program := "ytjpjphdcpdjlkaa", sum := "ad00979bc4335d77931b44fcc24e2bfe563634805107ecf11a0ec35715618a2b", func := "comitia/comitialaw22.HistoryOrder", spec := "historyOrder", unfollowed := true, recurses := true, apart := false }
def HistoryOrderSaid : Prop := historyOrderRow.holds Try.pinned (OpenSpec.ofChange historyOrderSpec)

/-- ITS FALSE NEIGHBOUR: 'it returns false'. Refute it at one input. -/
def historyOrderWrong : ChangeSpec := { name := "historyOrder", fn := fun _ => fun
  | [d] => { results := [.lit (.bool false)], args := [d] }
  | _ => none }
def HistoryOrderWrongFalsely : Prop := historyOrderRow.holds Try.pinned (OpenSpec.ofChange historyOrderWrong)

/- THE SECOND FORM. 'bulk': how many values and letters a reading holds, each counted each time it is reached (what is shared counts as often as it is met; a slice's spare places count too). A statement '..UptoSaid' is the law's where the arguments, and the package variables that the reading takes, are together of bulk at most 1048576: NARROWER than '..Said'. Prove '..Said' where nothing that the law and all that it calls make is longer than what came in: it says more and counts as full. Else prove '..UptoSaid'. A law counts once. -/
mutual
def uptoBulk {H : Type} : DataW H → Nat
  | .lit (.string bytes) => bytes.length + 1
  | .lit _ => 1
  | .nil => 1
  | .ptr d => uptoBulk d + 1
  | .slice elems spare => uptoBulkAll elems + uptoBulkAll spare + 1
  | .agg parts => uptoBulkAll parts + 1
  | .iface _ d => uptoBulk d + 1
  | .map entries => uptoBulkEntries entries + 1
  | .held _ => 1
def uptoBulkAll {H : Type} : List (DataW H) → Nat
  | [] => 0
  | d :: r => uptoBulk d + uptoBulkAll r
def uptoBulkEntries {H : Type} : List (Lit × DataW H) → Nat
  | [] => 0
  | x :: r => uptoBulkEntry x + uptoBulkEntries r
def uptoBulkEntry {H : Type} : Lit × DataW H → Nat
  | (.string bytes, d) => bytes.length + uptoBulk d + 1
  | (_, d) => uptoBulk d + 1
 end
def uptoSmall : (H : Type) → List (DataW H) → Bool := fun _ ds => decide (uptoBulkAll ds ≤ 1048576)
def OpenSpec.upto (s : _root_.Go.ChangeSpec) : _root_.Go.OpenSpec := { _root_.Go.OpenSpec.ofChange s with cond := some uptoSmall }

/-- 'comitialaw04.CountSizes', WHERE WHAT IT READS IS OF BULK AT MOST 1048576: true; the input reads as it did. -/
def countSizesUptoRow : OpenClaim := { program := "ytjpjphdcpdjlkaa", sum := "ad00979bc4335d77931b44fcc24e2bfe563634805107ecf11a0ec35715618a2b", func := "comitia/comitialaw04.CountSizes", spec := "countSizes", apart := false, narrowed := true }
def CountSizesUptoSaid : Prop := countSizesUptoRow.holds Try.pinned (OpenSpec.upto countSizesSpec)

/-- 'comitialaw15.TimerSpans', WHERE WHAT IT READS IS OF BULK AT MOST 1048576: true; the input reads as it did. -/
def timerSpansUptoRow : OpenClaim := { program := "ytjpjphdcpdjlkaa", sum := "ad00979bc4335d77931b44fcc24e2bfe563634805107ecf11a0ec35715618a2b", func := "comitia/comitialaw15.TimerSpans", spec := "timerSpans", apart := false, narrowed := true }
def TimerSpansUptoSaid : Prop := timerSpansUptoRow.holds Try.pinned (OpenSpec.upto timerSpansSpec)

/-- 'comitialaw08.RuleOnce', WHERE WHAT IT READS IS OF BULK AT MOST 1048576: true; the input reads as it did. -/
def ruleOnceUptoRow : OpenClaim := { program := "ytjpjphdcpdjlkaa", sum := "ad00979bc4335d77931b44fcc24e2bfe563634805107ecf11a0ec35715618a2b", func := "comitia/comitialaw08.RuleOnce", spec := "ruleOnce", apart := false, narrowed := true }
def RuleOnceUptoSaid : Prop := ruleOnceUptoRow.holds Try.pinned (OpenSpec.upto ruleOnceSpec)

/-- 'comitialaw08.RuleVotes', WHERE WHAT IT READS IS OF BULK AT MOST 1048576: true; the input reads as it did. -/
def ruleVotesUptoRow : OpenClaim := { program := "ytjpjphdcpdjlkaa", sum := "ad00979bc4335d77931b44fcc24e2bfe563634805107ecf11a0ec35715618a2b", func := "comitia/comitialaw08.RuleVotes", spec := "ruleVotes", apart := false, narrowed := true }
def RuleVotesUptoSaid : Prop := ruleVotesUptoRow.holds Try.pinned (OpenSpec.upto ruleVotesSpec)

/-- 'comitialaw04.CountLeaders', WHERE WHAT IT READS IS OF BULK AT MOST 1048576: true; the input reads as it did. -/
def countLeadersUptoRow : OpenClaim := { program := "ytjpjphdcpdjlkaa", sum := "ad00979bc4335d77931b44fcc24e2bfe563634805107ecf11a0ec35715618a2b", func := "comitia/comitialaw04.CountLeaders", spec := "countLeaders", apart := false, narrowed := true }
def CountLeadersUptoSaid : Prop := countLeadersUptoRow.holds Try.pinned (OpenSpec.upto countLeadersSpec)

/-- 'comitialaw19.ClientArgs', WHERE WHAT IT READS IS OF BULK AT MOST 1048576: true; the input reads as it did. -/
def clientArgsUptoRow : OpenClaim := { program := "ytjpjphdcpdjlkaa", sum := "ad00979bc4335d77931b44fcc24e2bfe563634805107ecf11a0ec35715618a2b", func := "comitia/comitialaw19.ClientArgs", spec := "clientArgs", apart := false, narrowed := true }
def ClientArgsUptoSaid : Prop := clientArgsUptoRow.holds Try.pinned (OpenSpec.upto clientArgsSpec)

/-- 'comitialaw15.TimerFails', WHERE WHAT IT READS IS OF BULK AT MOST 1048576: true; the input reads as it did. -/
def timerFailsUptoRow : OpenClaim := { program := "ytjpjphdcpdjlkaa", sum := "ad00979bc4335d77931b44fcc24e2bfe563634805107ecf11a0ec35715618a2b", func := "comitia/comitialaw15.TimerFails", spec := "timerFails", apart := false, narrowed := true }
def TimerFailsUptoSaid : Prop := timerFailsUptoRow.holds Try.pinned (OpenSpec.upto timerFailsSpec)

/-- 'comitialaw15.TimerHalts', WHERE WHAT IT READS IS OF BULK AT MOST 1048576: true; the input reads as it did. -/
def timerHaltsUptoRow : OpenClaim := { program := "ytjpjphdcpdjlkaa", sum := "ad00979bc4335d77931b44fcc24e2bfe563634805107ecf11a0ec35715618a2b", func := "comitia/comitialaw15.TimerHalts", spec := "timerHalts", apart := false, narrowed := true }
def TimerHaltsUptoSaid : Prop := timerHaltsUptoRow.holds Try.pinned (OpenSpec.upto timerHaltsSpec)

/-- 'comitialaw08.RuleBytes', WHERE WHAT IT READS IS OF BULK AT MOST 1048576: true; the input reads as it did. -/
def ruleBytesUptoRow : OpenClaim := { program := "ytjpjphdcpdjlkaa", sum := "ad00979bc4335d77931b44fcc24e2bfe563634805107ecf11a0ec35715618a2b", func := "comitia/comitialaw08.RuleBytes", spec := "ruleBytes", apart := false, narrowed := true }
def RuleBytesUptoSaid : Prop := ruleBytesUptoRow.holds Try.pinned (OpenSpec.upto ruleBytesSpec)

/-- 'comitialaw15.TimerPlays', WHERE WHAT IT READS IS OF BULK AT MOST 1048576: true; the input reads as it did. -/
def timerPlaysUptoRow : OpenClaim := { program := "ytjpjphdcpdjlkaa", sum := "ad00979bc4335d77931b44fcc24e2bfe563634805107ecf11a0ec35715618a2b", func := "comitia/comitialaw15.TimerPlays", spec := "timerPlays", apart := false, narrowed := true }
def TimerPlaysUptoSaid : Prop := timerPlaysUptoRow.holds Try.pinned (OpenSpec.upto timerPlaysSpec)

/-- 'comitialaw22.HistoryOrder', WHERE WHAT IT READS IS OF BULK AT MOST 1048576: true; the input reads as it did. -/
def historyOrderUptoRow : OpenClaim := { program := "ytjpjphdcpdjlkaa", sum := "ad00979bc4335d77931b44fcc24e2bfe563634805107ecf11a0ec35715618a2b", func := "comitia/comitialaw22.HistoryOrder", spec := "historyOrder", unfollowed := true, recurses := true, apart := false, narrowed := true }
def HistoryOrderUptoSaid : Prop := historyOrderUptoRow.holds Try.pinned (OpenSpec.upto historyOrderSpec)

end Rows
end Go.Proofs.Ytjpjphdcpdjlkaa
