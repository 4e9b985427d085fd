/- A call on a timer, walked. -/
import Derived.Test.YtjpjphdcpdjlkaaTim
set_option linter.unusedVariables false
set_option linter.unusedSimpArgs false
namespace Go.Proofs.Ytjpjphdcpdjlkaa.Tim
open Go.RowKit Go.Proofs.Ytjpjphdcpdjlkaa.PTimerPlays Go.Proofs.YtjpjphdcpdjlkaaW.PrintWords Go.Proofs.YtjpjphdcpdjlkaaW.PrintLast Go.Proofs.YtjpjphdcpdjlkaaW.PrintMore

/-- what a tick does -/
def tickF (f0 f1 f2 : Int) : Option (Bool × Int × Int × Int) := if 1000001 ≤ f0 then some (false, f0, f1, f2) else if 0 < wrap64 (f2 - 1) then some (false, f0, f1, wrap64 (f2 - 1)) else timer_Timer_begin.f f0 f1 (wrap64 (f2 - 1)) (wrap64 (f0 + 1)) (wrap64 (f1 + 1))
/-- what a call does -/
def callF (f0 f1 f2 kd v : Int) : Option (Bool × Int × Int × Int) := if kd % 3 = 0 then tickF f0 f1 f2 else if kd % 3 = 1 then timer_Timer_Enter.f f0 f1 f2 v else timer_Timer_Jump.f f0 f1 f2 v

set_option maxHeartbeats 8000000 in
set_option maxRecDepth 100000 in
theorem call_any (g : Nat) (f0 f1 f2 kd v : Int) (h0 : 0 ≤ kd) (h1 : kd ≤ 255) (w0 w : World) (hI : IsS83 w0 w g f0 f1 f2) (hB : Below w0.heap.size w0 w) (r : Bool × Int × Int × Int) (hr : callF f0 f1 f2 kd v = some r) :
   Calls Try.prog 36 #[.pointer (some ⟨g, 0, none⟩), .agg #[.int .u8 kd, .int .i64 v]] w fun e w' => e = .returned (.bool r.1) ∧ IsS83 w0 w' g r.2.1 r.2.2.1 r.2.2.2 ∧ Below w0.heap.size w0 w' ∧ KeepBut w w' g none := by
  have HI := Aside0.mk (hI.alloc (.cells #[.int .u8 kd, .int .i64 v] 55))
  have HB := Aside0.mk (below_alloc hB (.cells #[.int .u8 kd, .int .i64 v] 55))
  have HK := Aside0.mk (keep_alloc (KeepBut.refl w g none) (.cells #[.int .u8 kd, .int .i64 v] 55))
  clear hI hB
  unfold callF at hr
  obtain ⟨r1, r2, r3, r4⟩ := r
  by_cases c0 : kd % 3 = 0
  · rw [if_pos c0] at hr
    unfold tickF at hr
    have c0' : (kd % 3 == 0) = true := by simpa using c0
    have HR := Aside0.mk hr
    clear hr c0
    go_enter Try.func36, Try.ntmps36
    go_wp2_with (first | (go_at_call 31; (with_reducible refine (tick_any g f0 f1 f2 w0 _ HI.out HB.out (r1, r2, r3, r4) HR.out).mono ?_); rintro e w' ⟨rfl, hi, hb, hk⟩; have n0 := Aside0.mk hi; have n1 := Aside0.mk hb; have n2 := Aside0.mk (HK.out.trans hk (.inl rfl)); clear HI HB HK hi hb hk; have HI := n0; have HB := n1; have HK := n2; clear n0 n1 n2))
    go_ret
    exact ⟨rfl, HI.out, HB.out, HK.out⟩
  rw [if_neg c0] at hr
  have c0' : (kd % 3 == 0) = false := by simpa using c0
  clear c0
  by_cases c1 : kd % 3 = 1
  · rw [if_pos c1] at hr
    have c1' : (kd % 3 == 1) = true := by simpa using c1
    have HR := Aside0.mk hr
    clear hr c1
    go_enter Try.func36, Try.ntmps36
    go_wp2_with (first | (go_at_call 37; (with_reducible refine (timer_Timer_Enter.calls g f0 f1 f2 v r1 r2 r3 r4 w0 _ HI.out HB.out HR.out).mono ?_); rintro e w' ⟨rfl, hi, hb, hk⟩; have n0 := Aside0.mk hi; have n1 := Aside0.mk hb; have n2 := Aside0.mk (HK.out.trans hk (.inl rfl)); clear HI HB HK hi hb hk; have HI := n0; have HB := n1; have HK := n2; clear n0 n1 n2))
    go_ret
    exact ⟨rfl, HI.out, HB.out, HK.out⟩
  rw [if_neg c1] at hr
  have c1' : (kd % 3 == 1) = false := by simpa using c1
  have HR := Aside0.mk hr
  clear hr c1
  go_enter Try.func36, Try.ntmps36
  go_wp2_with (first | (go_at_call 51; (with_reducible refine (timer_Timer_Jump.calls g f0 f1 f2 v r1 r2 r3 r4 w0 _ HI.out HB.out HR.out).mono ?_); rintro e w' ⟨rfl, hi, hb, hk⟩; have n0 := Aside0.mk hi; have n1 := Aside0.mk hb; have n2 := Aside0.mk (HK.out.trans hk (.inl rfl)); clear HI HB HK hi hb hk; have HI := n0; have HB := n1; have HK := n2; clear n0 n1 n2))
  go_ret
  exact ⟨rfl, HI.out, HB.out, HK.out⟩
end Go.Proofs.Ytjpjphdcpdjlkaa.Tim
