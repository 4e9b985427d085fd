/- How many are enough: Faults, Quorum, Weak, and the reference's: walked. -/
import Derived.Test.YtdmdfpbklflijaaBase
import Derived.Test.YtdmdfpbklflijaaTopP
import Derived.LoopTactic
set_option linter.unusedVariables false
set_option linter.unusedSimpArgs false
namespace Go.Proofs.Ytdmdfpbklflijaa.Gat
open Go.RowKit Rd Api Top

/-- faults that are borne of n -/
def fl (n : Nat) : Nat := (n - 1) / 3
theorem fl_lt {n : Nat} (h : 1 ≤ n) : fl n < n := by unfold fl; omega
set_option maxHeartbeats 4000000 in
theorem faults_any (w : World) (n : Nat) (h : 1 ≤ n) (h2 : n ≤ 1000) : Calls Try.prog 88 #[.int .i64 (n : Int)] w fun e w' => e = .returned (.int .i64 (fl n : Nat)) ∧ w' = w := by
  have hm : max (n : Int) 1 = n := by omega
  have HE := Sd.mk (show ((n : Int) - 1) / 3 = (fl n : Nat) by unfold fl; omega)
  go_enter Try.func88, Try.ntmps88
  go_wp2
  go_ret
  exact ⟨by rw [← HE.out]; rfl, rfl⟩
theorem faults_eq (w : World) (n : Nat) (h : 1 ≤ n) (h2 : n ≤ 1000) (m : Nat) (hm : m = fl n) : Calls Try.prog 88 #[.int .i64 (n : Int)] w fun e w' => e = .returned (.int .i64 (m : Nat)) ∧ w' = w := by
  subst hm; exact faults_any w n h h2
set_option maxHeartbeats 4000000 in
theorem quorum_any (w : World) (n : Nat) (h : 1 ≤ n) (h2 : n ≤ 1000) (q : Nat) (hq : q = n - fl n) : Calls Try.prog 54 #[.int .i64 (n : Int)] w fun e w' => e = .returned (.int .i64 (q : Nat)) ∧ w' = w := by
  obtain ⟨m, hf⟩ : ∃ m, m = fl n := ⟨_, rfl⟩
  have hc := fun W => faults_eq W n h h2 m hf
  have h3 : m < n := by rw [hf]; exact fl_lt h
  have hm : max (n : Int) 1 = n := by omega
  have HE := Sd.mk (show (n : Int) - (m : Int) = (q : Nat) by omega)
  clear hq hf
  go_enter Try.func54, Try.ntmps54
  go_wp2_with (first
    | (go_at_call 88; (with_reducible refine (hc _).mono ?_); rintro e w1 ⟨rfl, rfl⟩))
  go_ret
  exact ⟨by rw [HE.out]; rfl, rfl⟩
set_option maxHeartbeats 4000000 in
theorem weak_any (w : World) (n : Nat) (h : 1 ≤ n) (h2 : n ≤ 1000) (q : Nat) (hq : q = fl n + 1) : Calls Try.prog 77 #[.int .i64 (n : Int)] w fun e w' => e = .returned (.int .i64 (q : Nat)) ∧ w' = w := by
  obtain ⟨m, hf⟩ : ∃ m, m = fl n := ⟨_, rfl⟩
  have hc := fun W => faults_eq W n h h2 m hf
  have h3 : m < n := by rw [hf]; exact fl_lt h
  have HE := Sd.mk (show (m : Int) + 1 = (q : Nat) by omega)
  clear hq hf
  go_enter Try.func77, Try.ntmps77
  go_wp2_with (first
    | (go_at_call 88; (with_reducible refine (hc _).mono ?_); rintro e w1 ⟨rfl, rfl⟩))
  go_ret
  exact ⟨by rw [HE.out]; rfl, rfl⟩
set_option maxHeartbeats 4000000 in
theorem reffaults3_any (w : World) (n : Nat) (h : 1 ≤ n) (h2 : n ≤ 1000) (m : Nat) (hm : m = (n - 1) / 3) : Calls Try.prog 55 #[.int .i64 (n : Int)] w fun e w' => e = .returned (.int .i64 (m : Nat)) ∧ w' = w := by
  have HE := Sd.mk (show ((n : Int) - 1) / 3 = (m : Nat) by omega)
  have d : decide ((n : Int) < 1) = false := decide_eq_false (by omega)
  clear hm
  go_enter Try.func55, Try.ntmps55
  go_wp2
  go_ret
  exact ⟨by rw [HE.out]; rfl, rfl⟩
set_option maxHeartbeats 4000000 in
theorem reffaults_any (w : World) (n : Nat) (h : 1 ≤ n) (h2 : n ≤ 1000) (m : Nat) (hm : m = fl n) : Calls Try.prog 19 #[.int .i64 (n : Int)] w fun e w' => e = .returned (.int .i64 (m : Nat)) ∧ w' = w := by
  by_cases h4 : n < 4
  · have d : decide ((n : Int) < 4) = true := decide_eq_true (by omega)
    obtain rfl : m = 0 := by rw [hm]; unfold fl; omega
    go_enter Try.func19, Try.ntmps19
    go_wp2
    go_ret
    exact ⟨rfl, rfl⟩
  · have d : decide ((n : Int) < 4) = false := decide_eq_false (by omega)
    obtain ⟨k, rfl⟩ : ∃ k, n = k + 3 := ⟨n - 3, by omega⟩
    obtain ⟨j, hj⟩ : ∃ j, j = (k - 1) / 3 := ⟨_, rfl⟩
    have hc := fun W => reffaults3_any W k (by omega) (by omega) j hj
    have hj2 : j ≤ 1000 := by omega
    have HE := Sd.mk (show 1 + (j : Int) = (m : Nat) by rw [hm]; unfold fl; omega)
    have e3 : ((k + 3 : Nat) : Int) - 3 = (k : Nat) := by omega
    have e4 : ((k + 3 : Nat) : Int) = (k : Int) + 3 := by omega
    have e5 : (k : Int) + 3 - 3 = (k : Nat) := by omega
    clear hm hj
    go_enter Try.func19, Try.ntmps19
    go_wp2_with (first
      | (go_at_call 55; (with_reducible refine (hc _).mono ?_); rintro e w1 ⟨rfl, rfl⟩))
    go_ret
    exact ⟨by rw [HE.out]; rfl, rfl⟩
end Go.Proofs.Ytdmdfpbklflijaa.Gat
