/- TimerFails, walked: for every uint8, without a condition. -/
import Derived.Test.YtjpjphdcpdjlkaaTim
namespace Go.Proofs.Ytjpjphdcpdjlkaa.Tim
open Go.RowKit Go.Proofs.Ytjpjphdcpdjlkaa.PTimerPlays Go.Proofs.YtjpjphdcpdjlkaaW.PrintWords Go.Proofs.YtjpjphdcpdjlkaaW.PrintLast Go.Proofs.YtjpjphdcpdjlkaaW.PrintMore



theorem tick_left {i : Nat} (hi : i < 20) {j : Int} (h1 : 1 ≤ j) (h2 : j < sp i) :
    (if 1000001 ≤ (1 + (i : Int)) then some (false, (1 + (i : Int)), (i : Int), sp i - (j - 1)) else if 0 < wrap64 (sp i - (j - 1) - 1) then some (false, (1 + (i : Int)), (i : Int), wrap64 (sp i - (j - 1) - 1)) else timer_Timer_begin.f (1 + (i : Int)) i (wrap64 (sp i - (j - 1) - 1)) (wrap64 ((1 + (i : Int)) + 1)) (wrap64 ((i : Int) + 1))) = some (false, (1 + (i : Int)), (i : Int), sp i - j) := by
  have hr := sp_range i
  have e : wrap64 (sp i - (j - 1) - 1) = sp i - j := by unfold wrap64; omega
  rw [if_neg (by omega), e, if_pos (by omega)]
theorem tick_last {i : Nat} (hi : i < 20) :
    (if 1000001 ≤ (1 + (i : Int)) then some (false, (1 + (i : Int)), (i : Int), (1 : Int)) else if 0 < wrap64 ((1 : Int) - 1) then some (false, (1 + (i : Int)), (i : Int), wrap64 ((1 : Int) - 1)) else timer_Timer_begin.f (1 + (i : Int)) i (wrap64 ((1 : Int) - 1)) (wrap64 ((1 + (i : Int)) + 1)) (wrap64 ((i : Int) + 1))) = some (true, (1 + ((i + 1 : Nat) : Int)), ((i + 1 : Nat) : Int), sp ((i + 1 : Nat) : Int)) := by
  rw [if_neg (by omega), if_neg (by decide +kernel)]
  unfold timer_Timer_begin.f
  rw [span_is]
  have e1 : wrap64 ((1 + (i : Int)) + 1) = 1 + ((i + 1 : Nat) : Int) := by unfold wrap64; omega
  have e2 : wrap64 ((i : Int) + 1) = ((i + 1 : Nat) : Int) := by unfold wrap64; omega
  rw [e1, e2]
  simp only [Option.bind_some]
  have e3 : mn (1 + ((i + 1 : Nat) : Int)) 1000001 = 1 + ((i + 1 : Nat) : Int) := by unfold mn; split <;> omega
  rw [e3]

set_option maxHeartbeats 8000000 in
set_option maxRecDepth 100000 in
theorem fails_any (w : World) (n : Int) (hn : (Lit.int .u8 n).wf = true) : Calls Try.prog 9 #[.int .u8 n] w fun e w' => e = .returned (.bool true) ∧ Below w.heap.size w w' := by
  obtain ⟨l1, l2⟩ : 0 ≤ n ∧ n ≤ 255 := by simpa [Lit.wf, IntKind.min, IntKind.max, IntKind.bits, IntKind.signed] using hn
  obtain ⟨k, hk⟩ : ∃ k : Nat, n % 20 = (k : Int) := ⟨(n % 20).toNat, by omega⟩
  have hk20 : k < 20 := by omega
  have HB := Aside0.mk (Below.refl w.heap.size w)
  go_enter Try.func9, Try.ntmps9
  go_wp2_with (first | (go_at_call 20; (with_reducible refine (awake_any _).mono ?_); rintro e w' ⟨rfl, hb⟩; have n0 := Aside0.mk (below_step HB.out hb); clear HB hb; have HB := n0; clear n0) | (go_at_call 30; (with_reducible refine (new_any 1 w _ HB.out).mono ?_); rintro e w' ⟨g, rfl, hi, hb, hg, hb1⟩; have HI := Aside0.mk hi; clear hi hg hb1; have n0 := Aside0.mk hb; clear HB hb; have HB := n0; clear n0))
  have h11 : mn (mx 1 1) 1000001 = 1 := by decide
  have HS := Aside0.mk (show IsS83 w w' g (1 + ((0 : Nat) : Int)) ((0 : Nat) : Int) (sp ((0 : Nat) : Int)) from by have := HI.out; rw [h11] at this; exact this)
  clear HI h11
  go_loopg [5] k (fun gk v5 wr => ∃ i : Nat, i + gk = k ∧ v5 = .int .i64 i ∧ Aside0 (IsS83 w wr g (1 + (i : Int)) i (sp i)) ∧ Aside0 (Below w.heap.size w wr))
  case atStart => exact ⟨0, by omega, rfl, HS, HB⟩
  case round =>
    clear HS HB
    obtain ⟨i, hik, rfl, HI, HB⟩ := hrel
    by_cases hlt : i < k
    · have hi20 : i < 20 := by omega
      have hsr := sp_range i
      go_wp2
      go_loopg [6] (sp i - 1).toNat (fun gk6 v6 wr => ∃ j : Int, 1 ≤ j ∧ j ≤ sp i ∧ (gk6 : Int) = sp i - j ∧ v6 = .int .i64 j ∧ Aside0 (IsS83 w wr g (1 + (i : Int)) i (sp i - (j - 1))) ∧ Aside0 (Below w.heap.size w wr))
      case atStart => exact ⟨1, by omega, by omega, by omega, rfl, ⟨by have := HI.out; simpa using this⟩, HB⟩
      case round =>
        clear HI HB
        obtain ⟨j, h1, hjs, hgj, rfl, HI, HB⟩ := hrel
        by_cases hj : j < sp i
        · have HT := Aside0.mk (tick_left hi20 h1 hj)
          go_wp2_with (first | (go_at_call 19; (with_reducible refine (timer_Span.calls i (sp i) _ (span_is _)).mono ?_); rintro e w' ⟨rfl, hb⟩; have n1 := Aside0.mk (HI.out.below hb); clear HI; have HI := n1; clear n1; have n0 := Aside0.mk (below_step HB.out hb); clear HB hb; have HB := n0; clear n0) | (go_at_call 31; (with_reducible refine (tick_any g _ _ _ w _ HI.out HB.out (false, (1 + (i : Int)), (i : Int), sp i - j) HT.out).mono ?_); rintro e w' ⟨rfl, hi, hb, hk⟩; have n0 := Aside0.mk hi; have n1 := Aside0.mk hb; clear HI HB hi hb hk; have HI := n0; have HB := n1; clear n0 n1))
          go_roundg (gk - 1)
          case measure => omega
          case rel => exact ⟨j + 1, by omega, by omega, by omega, by go_num, ⟨by have := HI.out; simpa using this⟩, HB⟩
        · have hje : sp i - (j - 1) = 1 := by omega
          rw [hje] at HI
          have HT := Aside0.mk (tick_last hi20)
          clear hje
          go_wp2_with (first | (go_at_call 19; (with_reducible refine (timer_Span.calls i (sp i) _ (span_is _)).mono ?_); rintro e w' ⟨rfl, hb⟩; have n1 := Aside0.mk (HI.out.below hb); clear HI; have HI := n1; clear n1; have n0 := Aside0.mk (below_step HB.out hb); clear HB hb; have HB := n0; clear n0) | (go_at_call 31; (with_reducible refine (tick_any g _ _ _ w _ HI.out HB.out (true, (1 + ((i + 1 : Nat) : Int)), ((i + 1 : Nat) : Int), sp ((i + 1 : Nat) : Int)) HT.out).mono ?_); rintro e w' ⟨rfl, hi, hb, hk⟩; have n0 := Aside0.mk hi; have n1 := Aside0.mk hb; clear HI HB hi hb hk; have HI := n0; have HB := n1; clear n0 n1))
          go_roundg (k - (i + 1))
          case measure => omega
          case rel => exact ⟨i + 1, by omega, by go_num, HI, HB⟩
    · obtain rfl : i = k := by omega
      go_wp2_with (first | (go_at_call 32; (with_reducible refine (timer_Timer_View.calls g (1 + (i : Int)) i (sp i) (1 + (i : Int)) (1 + (i : Int)) i (sp i) w _ HI.out HB.out rfl).mono ?_); rintro e w' ⟨rfl, hi, hb, hk⟩; have n0 := Aside0.mk hi; have n1 := Aside0.mk hb; clear HI HB hi hb hk; have HI := n0; have HB := n1; clear n0 n1) | (go_at_call 33; (with_reducible refine (timer_Timer_Fails.calls g (1 + (i : Int)) i (sp i) i (1 + (i : Int)) i (sp i) w _ HI.out HB.out rfl).mono ?_); rintro e w' ⟨rfl, hi, hb, hk⟩; have n0 := Aside0.mk hi; have n1 := Aside0.mk hb; clear HI HB hi hb hk; have HI := n0; have HB := n1; clear n0 n1) | (go_at_call 34; (with_reducible refine (timer_Timer_Left.calls g (1 + (i : Int)) i (sp i) (sp i) (1 + (i : Int)) i (sp i) w _ HI.out HB.out rfl).mono ?_); rintro e w' ⟨rfl, hi, hb, hk⟩; have n0 := Aside0.mk hi; have n1 := Aside0.mk hb; clear HI HB hi hb hk; have HI := n0; have HB := n1; clear n0 n1) | (go_at_call 19; (with_reducible refine (timer_Span.calls i (sp i) _ (span_is _)).mono ?_); rintro e w' ⟨rfl, hb⟩; have n1 := Aside0.mk (HI.out.below hb); clear HI; have HI := n1; clear n1; have n0 := Aside0.mk (below_step HB.out hb); clear HB hb; have HB := n0; clear n0))
      go_ret
      exact ⟨rfl, HB.out⟩
end Go.Proofs.Ytjpjphdcpdjlkaa.Tim
