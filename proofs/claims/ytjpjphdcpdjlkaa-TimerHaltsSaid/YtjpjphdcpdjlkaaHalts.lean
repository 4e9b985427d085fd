/- TimerHalts, walked. -/
import Derived.Test.YtjpjphdcpdjlkaaOps
set_option linter.unusedVariables false
namespace Go.Proofs.Ytjpjphdcpdjlkaa.Tim
open Go.RowKit Go.Proofs.Ytjpjphdcpdjlkaa.PTimerPlays Go.Proofs.YtjpjphdcpdjlkaaW.PrintWords Go.Proofs.YtjpjphdcpdjlkaaW.PrintLast Go.Proofs.YtjpjphdcpdjlkaaW.PrintMore


theorem halted_call (kd v : Int) : callF 1000001 0 4 kd v = some (false, 1000001, 0, 4) := by
  unfold callF tickF timer_Timer_Enter.f timer_Timer_Jump.f timer_Timer_Halted.f
  (repeat' split) <;> simp_all

set_option maxHeartbeats 8000000 in
set_option maxRecDepth 100000 in
theorem halts_few (A : Option Addr) (c : Nat) (l : List OpT) (w : World) (hn : l.length ≤ 100) (hl : Rd.Row opK w A l) : Calls Try.prog 10 #[.slice A l.length c] w fun e w' => e = .returned (.bool true) ∧ Below w.heap.size w w' := by
  have HB := Aside0.mk (Below.refl w.heap.size w)
  have HL := Aside0.mk hl
  clear hl
  have h100 : decide (100 < (l.length : Int)) = false := decide_eq_false (by omega)
  go_enter Try.func10, Try.ntmps10
  go_wp2_with (first | (go_at_call 20; (with_reducible refine (awake_any _).mono ?_); rintro e w' ⟨rfl, hb⟩; have n0 := Aside0.mk (below_step HB.out hb); clear HB hb; have HB := n0; clear n0) | (go_at_call 30; (with_reducible refine (new_any 1099511627776 w _ HB.out).mono ?_); rintro e w' ⟨g, rfl, hi, hb, hg, hb1⟩; have HI := Aside0.mk hi; clear hi hg hb1; have n0 := Aside0.mk hb; clear HB hb; have HB := n0; clear n0) | (go_at_call 32; (with_reducible refine (timer_Timer_View.calls g 1000001 0 4 1000001 1000001 0 4 w _ HI.out HB.out rfl).mono ?_); rintro e w' ⟨rfl, hi, hb, hk⟩; have n0 := Aside0.mk hi; have n1 := Aside0.mk hb; clear HI HB hi hb hk; have HI := n0; have HB := n1; clear n0 n1) | (go_at_call 35; (with_reducible refine (timer_Timer_Halted.calls g 1000001 0 4 true 1000001 0 4 w _ HI.out HB.out rfl).mono ?_); rintro e w' ⟨rfl, hi, hb, hk⟩; have n0 := Aside0.mk hi; have n1 := Aside0.mk hb; clear HI HB hi hb hk; have HI := n0; have HB := n1; clear n0 n1))
  go_loopg [4] l.length (fun gk v4 wr => ∃ i : Nat, i + gk = l.length ∧ v4 = .int .i64 i ∧ Aside0 (IsS83 w wr g 1000001 0 4) ∧ Aside0 (Below w.heap.size w wr))
  case atStart => exact ⟨0, by omega, rfl, HI, HB⟩
  case round =>
    clear HI HB
    obtain ⟨i, hi, rfl, HI, HB⟩ := hrel
    by_cases hlt : i < l.length
    · obtain ⟨b, o, kd, v, rfl, p1, p2, p5, p6⟩ := op_at HL.out HB.out hlt
      have HC := Aside0.mk (halted_call kd v)
      go_wp2_with (first | (go_at_call 36; (with_reducible refine (call_any g 1000001 0 4 kd v p1 p2 w _ HI.out HB.out (false, 1000001, 0, 4) HC.out).mono ?_); rintro e w' ⟨rfl, hi, hb, hk⟩; have n0 := Aside0.mk hi; have n1 := Aside0.mk hb; clear HI HB hi hb hk; have HI := n0; have HB := n1; clear n0 n1))
      go_roundg (gk - 1)
      case measure => omega
      case rel => exact ⟨i + 1, by omega, by go_num, HI, HB⟩
    · obtain rfl : i = l.length := by omega
      have HE := Aside0.mk (show timer_Timer_Enter.f 1000000 0 4 1125899906842624 = some (true, 1000001, 0, 4) from by decide +kernel)
      go_wp2_with (first | (go_at_call 30; (with_reducible refine (new_any 1000000 w _ HB.out).mono ?_); rintro e w' ⟨g2, rfl, hi, hb, hg, hb1⟩; have HN := Aside0.mk (show g2 ≠ g from by have h1 := HI.out.lt; omega); have HT := Aside0.mk (HI.out.below hb1); clear HI; have HI := Aside0.mk (show IsS83 w w' g2 1000000 0 4 from hi); clear hi hg hb1; have n0 := Aside0.mk hb; clear HB hb; have HB := n0; clear n0) | (go_at_call 32; (with_reducible refine (timer_Timer_View.calls g 1000001 0 4 1000001 1000001 0 4 w _ HT.out HB.out rfl).mono ?_); rintro e w' ⟨rfl, hi, hb, hk⟩; have n1 := Aside0.mk (show IsS83 w w' g2 1000000 0 4 from keep83 HI.out hk HN.out); clear HI HT hi hk; have HI := n1; clear n1; have n0 := Aside0.mk hb; clear HB hb; have HB := n0; clear n0) | (go_at_call 32; (with_reducible refine (timer_Timer_View.calls g2 1000001 0 4 1000001 1000001 0 4 w _ HI.out HB.out rfl).mono ?_); rintro e w' ⟨rfl, hi, hb, hk⟩; have n0 := Aside0.mk hi; have n1 := Aside0.mk hb; clear HI HB hi hb hk; have HI := n0; have HB := n1; clear n0 n1) | (go_at_call 35; (with_reducible refine (timer_Timer_Halted.calls g2 1000000 0 4 false 1000000 0 4 w _ HI.out HB.out rfl).mono ?_); rintro e w' ⟨rfl, hi, hb, hk⟩; have n0 := Aside0.mk hi; have n1 := Aside0.mk hb; clear HI HB hi hb hk; have HI := n0; have HB := n1; clear n0 n1) | (go_at_call 35; (with_reducible refine (timer_Timer_Halted.calls g2 1000001 0 4 true 1000001 0 4 w _ HI.out HB.out rfl).mono ?_); rintro e w' ⟨rfl, hi, hb, hk⟩; have n0 := Aside0.mk hi; have n1 := Aside0.mk hb; clear HI HB hi hb hk; have HI := n0; have HB := n1; clear n0 n1) | (go_at_call 37; (with_reducible refine (timer_Timer_Enter.calls g2 1000000 0 4 1125899906842624 true 1000001 0 4 w _ HI.out HB.out HE.out).mono ?_); rintro e w' ⟨rfl, hi, hb, hk⟩; have n0 := Aside0.mk hi; have n1 := Aside0.mk hb; clear HI HB hi hb hk; have HI := n0; have HB := n1; clear n0 n1))
      go_ret
      exact ⟨rfl, HB.out⟩

set_option maxHeartbeats 8000000 in
set_option maxRecDepth 100000 in
theorem halts_any (w : World) (A : Option Addr) (c : Nat) (l : List OpT) (hc : l.length ≤ c) (hm : c ≤ maxLen) (hl : Rd.Row opK w A l) : Calls Try.prog 10 #[.slice A l.length c] w fun e w' => e = .returned (.bool true) ∧ Below w.heap.size w w' := by
  by_cases hn : l.length ≤ 100
  · exact halts_few A c l w hn hl
  · unfold maxLen at hm
    have HB := Aside0.mk (Below.refl w.heap.size w)
    have h100 : decide (100 < (l.length : Int)) = true := decide_eq_true (by omega)
    clear hl hn
    go_enter Try.func10, Try.ntmps10
    go_wp2_with (first | (go_at_call 20; (with_reducible refine (awake_any _).mono ?_); rintro e w' ⟨rfl, hb⟩; have n0 := Aside0.mk (below_step HB.out hb); clear HB hb; have HB := n0; clear n0))
    go_ret
    exact ⟨rfl, HB.out⟩
end Go.Proofs.Ytjpjphdcpdjlkaa.Tim
