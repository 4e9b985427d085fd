/- How many are enough: Faults, Quorum, Weak, and the reference's: walked. -/
import Derived.Test.YtnomgkmeomlccaaBase
import Derived.Test.YtnomgkmeomlccaaTopP
import Derived.LoopTactic
set_option linter.unusedVariables false
set_option linter.unusedSimpArgs false
namespace Go.Proofs.Ytnomgkmeomlccaa.Gat
open Go.RowKit Rd Api Top

/-- faults that are borne of n -/
def fl (n : Nat) : Nat := (n - 1) / 3
theorem fl_lt {n : Nat} (h : 1 ≤ n) : fl n < n := by unfold fl; omega
set_option maxHeartbeats 4000000 in
theorem faults_any (w : World) (n : Nat) (h : 1 ≤ n) (h2 : n ≤ 1000) : Calls Try.prog 139 #[.int .i64 (n : Int)] w fun e w' => e = .returned (.int .i64 (fl n : Nat)) ∧ w' = w := by
  have hm : max (n : Int) 1 = n := by omega
  have HE := Sd.mk (show ((n : Int) - 1) / 3 = (fl n : Nat) by unfold fl; omega)
  go_enter Try.func139, Try.ntmps139
  go_wp2
  go_ret
  exact ⟨by rw [← HE.out]; rfl, rfl⟩
theorem faults_eq (w : World) (n : Nat) (h : 1 ≤ n) (h2 : n ≤ 1000) (m : Nat) (hm : m = fl n) : Calls Try.prog 139 #[.int .i64 (n : Int)] w fun e w' => e = .returned (.int .i64 (m : Nat)) ∧ w' = w := by
  subst hm; exact faults_any w n h h2
set_option maxHeartbeats 4000000 in
theorem quorum_any (w : World) (n : Nat) (h : 1 ≤ n) (h2 : n ≤ 1000) (q : Nat) (hq : q = n - fl n) : Calls Try.prog 111 #[.int .i64 (n : Int)] w fun e w' => e = .returned (.int .i64 (q : Nat)) ∧ w' = w := by
  obtain ⟨m, hf⟩ : ∃ m, m = fl n := ⟨_, rfl⟩
  have hc := fun W => faults_eq W n h h2 m hf
  have h3 : m < n := by rw [hf]; exact fl_lt h
  have hm : max (n : Int) 1 = n := by omega
  have HE := Sd.mk (show (n : Int) - (m : Int) = (q : Nat) by omega)
  clear hq hf
  go_enter Try.func111, Try.ntmps111
  go_wp2_with (first
    | (go_at_call 139; (with_reducible refine (hc _).mono ?_); rintro e w1 ⟨rfl, rfl⟩))
  go_ret
  exact ⟨by rw [HE.out]; rfl, rfl⟩
end Go.Proofs.Ytnomgkmeomlccaa.Gat
