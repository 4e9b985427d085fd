/- A call on a timer, and the reference's: they answer alike. -/
import Derived.Test.YtjpjphdcpdjlkaaCall
set_option linter.unusedVariables false
set_option linter.unusedSimpArgs false
namespace Go.Proofs.Ytjpjphdcpdjlkaa.Tim
open Go.RowKit Go.Proofs.Ytjpjphdcpdjlkaa.PTimerPlays Go.Proofs.YtjpjphdcpdjlkaaW.PrintWords Go.Proofs.YtjpjphdcpdjlkaaW.PrintLast Go.Proofs.YtjpjphdcpdjlkaaW.PrintMore

theorem begin_is (f0 f1 f2 a1 a2 : Int) : timer_Timer_begin.f f0 f1 f2 a1 a2 = some (true, mn a1 1000001, a2, sp a2) := by
  unfold timer_Timer_begin.f; rw [span_is]; rfl
theorem mn_le (a b : Int) : mn a b ≤ a ∧ mn a b ≤ b ∧ (mn a b = a ∨ mn a b = b) := by
  unfold mn; split <;> omega

theorem step_alike (f0 f1 f2 kd v : Int) (i : Nat) (hi : i ≤ 200) (h0 : 1 ≤ f0 ∧ f0 ≤ 1000001) (h1 : 0 ≤ f1 ∧ f1 ≤ i) (h2 : 1 ≤ f2 ∧ f2 ≤ 16) (hk : 0 ≤ kd ∧ kd ≤ 255) :
    ∃ r x0 x1 x2, callF f0 f1 f2 kd v = some (r, x0, x1, x2) ∧ comitiaref15_Timer_Do.f 3 f0 f1 f2 kd v = some (x0, x1, x2, r) ∧ (1 ≤ x0 ∧ x0 ≤ 1000001) ∧ (0 ≤ x1 ∧ x1 ≤ ((i + 1 : Nat) : Int)) ∧ (1 ≤ x2 ∧ x2 ≤ 16) ∧ f0 ≤ x0 := by
  have ht : Int.tmod kd 3 = kd % 3 := Int.tmod_eq_emod_of_nonneg (by omega)
  unfold callF tickF timer_Timer_Enter.f timer_Timer_Jump.f timer_Timer_Halted.f comitiaref15_Timer_Do.f
  simp only [Option.bind_some, begin_is, ref_is, ht]
  by_cases hh : f0 = 1000001
  · refine ⟨false, f0, f1, f2, ?_, by rw [if_pos hh], h0, by omega, h2, by omega⟩
    have hd : f0 ≥ 1000001 := by omega
    simp only [hd, decide_true, if_true]
    (repeat' split) <;> rfl
  have hd : ¬ f0 ≥ 1000001 := by omega
  rw [if_neg hh, if_neg (show ¬ 1000001 ≤ f0 by omega)]
  simp only [hd, decide_false, Bool.false_eq_true, if_false]
  by_cases c0 : kd % 3 = 0
  · simp only [if_pos c0]
    have e : wrap64 (f2 - 1) = f2 - 1 := by unfold wrap64; omega
    rw [e]
    by_cases c1 : f2 > 1
    · exact ⟨false, f0, f1, f2 - 1, by rw [if_pos (show 0 < f2 - 1 by omega)], by rw [if_pos c1], h0, by omega, by omega, by omega⟩
    · have e1 : wrap64 (f0 + 1) = f0 + 1 := by unfold wrap64; omega
      have e2 : wrap64 (f1 + 1) = f1 + 1 := by unfold wrap64; omega
      have e3 : mn (f0 + 1) 1000001 = f0 + 1 := by unfold mn; split <;> omega
      have hs := sp_range (f1 + 1)
      rw [e1, e2, e3]
      exact ⟨true, f0 + 1, f1 + 1, sp (f1 + 1), by rw [if_neg (show ¬ 0 < f2 - 1 by omega)], by rw [if_neg c1], by omega, by omega, by omega, by omega⟩
  simp only [if_neg c0]
  have hm := mn_le v 1000001
  have hs := sp_range f1
  have hs0 := sp_range 0
  by_cases c1 : v ≤ f0
  · refine ⟨false, f0, f1, f2, ?_, by rw [if_pos c1], h0, by omega, h2, by omega⟩
    simp only [if_neg (show ¬ v > f0 by omega)]
    (repeat' split) <;> rfl
  simp only [if_neg c1, if_pos (show v > f0 by omega)]
  by_cases c2 : kd % 3 = 2
  · exact ⟨true, mn v 1000001, f1, sp f1, by rw [if_neg (show ¬ kd % 3 = 1 by omega)], by rw [if_pos c2], by omega, by omega, by omega, by omega⟩
  · exact ⟨true, mn v 1000001, 0, sp 0, by rw [if_pos (show kd % 3 = 1 by omega)], by rw [if_neg c2], by omega, by omega, by omega, by omega⟩
end Go.Proofs.Ytjpjphdcpdjlkaa.Tim
