/- BlakeSums, BlakeKeyed, walked. -/
import Derived.Test.YtmilnaiehebalaaDigA
import Derived.Test.YtmilnaiehebalaaRefT
set_option linter.unusedVariables false
set_option linter.unusedSimpArgs false
namespace Go.Proofs.Ytmilnaiehebalaa.Dig
open Go.RowKit Rd Api Own Mv Word Vec Mix Tab Step

theorem ref0_any (w : World) (s : ByteArray) (hs : s.size ≤ 70368744177664) : Calls Try.prog 14 #[.string { data := #[] }, .string s] w fun e w' => e = .returned (.string (sum s)) ∧ Below w.heap.size w w' := by
  have := RefS.refsum_any w E0 s (by rw [E0_size]; omega) hs
  rw [E0_strm] at this
  exact this
theorem refk_any (w : World) (key s : ByteArray) (hk : key.size ≤ 32) (hs : s.size ≤ 70368744177664) : Calls Try.prog 14 #[.string key, .string s] w fun e w' => e = .returned (.string (keyed key s)) ∧ Below w.heap.size w w' := RefS.refsum_any w key s hk hs

set_option maxHeartbeats 4000000 in
set_option maxRecDepth 100000 in
theorem sums_row (w : World) (b : ByteArray) (hb : b.size ≤ 140737488351232) :
    Calls Try.prog 3 #[.string b] w fun e w' => e = .returned (.bool true) ∧ Below w.heap.size w w' := by
  by_cases h : b.size ≤ 2000
  · have d1 : decide ((2000 : Int) < (b.size : Int)) = false := decide_eq_false (by omega)
    go_enter Try.func3, Try.ntmps3
    generalize hsb : sum b = sb
    have H := Sd.mk hsb
    clear hsb
    go_wp2_with (first
      | (go_at_call 12; (with_reducible refine (awake_any _).mono ?_); rintro e w1 ⟨rfl, hb1⟩; have B1 := Sd.mk hb1; clear hb1)
      | (go_at_call 13; (with_reducible refine (blake_sum_any _ b (by omega)).mono ?_); rintro e w2 ⟨rfl, hb2⟩; have B2 := Sd.mk (below_then B1.out hb2); clear hb2 B1)
      | (go_at_call 14; (with_reducible refine (ref0_any _ b (by omega)).mono ?_); rintro e w3 ⟨rfl, hb3⟩; have B3 := Sd.mk (below_then B2.out hb3); clear hb3 B2))
    go_ret
    exact ⟨rfl, B3.out⟩
  · have d1 : decide ((2000 : Int) < (b.size : Int)) = true := decide_eq_true (by omega)
    go_enter Try.func3, Try.ntmps3
    go_wp2_with (first
      | (go_at_call 12; (with_reducible refine (awake_any _).mono ?_); rintro e w1 ⟨rfl, hb1⟩; (first | (have B1 := Sd.mk (below_then B0.out hb1)) | have B0 := Sd.mk hb1); clear hb1))
    go_ret
    exact ⟨rfl, B1.out⟩
end Go.Proofs.Ytmilnaiehebalaa.Dig
