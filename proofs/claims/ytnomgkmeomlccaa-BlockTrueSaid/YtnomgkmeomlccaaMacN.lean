/- mac.Nodes: walked (for seats without MacL). -/
import Derived.Test.YtnomgkmeomlccaaMacK
set_option linter.unusedVariables false
set_option linter.unusedSimpArgs false
namespace Go.Proofs.Ytnomgkmeomlccaa.Mac
open Go.RowKit Rd Api Own Mv Num Dig

set_option maxHeartbeats 4000000 in
set_option maxRecDepth 100000 in
theorem nodes_any (w : World) (n : Int) (b : Bool) (hb : decide (1 ≤ n ∧ n ≤ 7) = b) : Calls Try.prog 72 #[.int .i64 n] w fun e w' => e = .returned (.bool b) ∧ w' = w := by
  subst hb
  by_cases h0 : 1 ≤ n
  · have d0 : decide (1 ≤ n) = true := decide_eq_true h0
    by_cases h1 : n ≤ 7
    · have d1 : decide (n ≤ 7) = true := decide_eq_true h1
      rw [decide_eq_true (show 1 ≤ n ∧ n ≤ 7 from ⟨h0, h1⟩)]
      clear h0 h1
      go_enter Try.func72, Try.ntmps72
      go_wp2
      go_ret
      exact ⟨rfl, rfl⟩
    · have d1 : decide (n ≤ 7) = false := decide_eq_false h1
      rw [decide_eq_false (show ¬ (1 ≤ n ∧ n ≤ 7) from fun h => h1 h.2)]
      clear h0 h1
      go_enter Try.func72, Try.ntmps72
      go_wp2
      go_ret
      exact ⟨rfl, rfl⟩
  · have d0 : decide (1 ≤ n) = false := decide_eq_false h0
    rw [decide_eq_false (show ¬ (1 ≤ n ∧ n ≤ 7) from fun h => h0 h.1)]
    clear h0
    go_enter Try.func72, Try.ntmps72
    go_wp2
    go_ret
    exact ⟨rfl, rfl⟩

end Go.Proofs.Ytnomgkmeomlccaa.Mac
