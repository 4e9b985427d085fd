/- BlakeKeyed, walked. -/
import Derived.Test.YtmilnaiehebalaaDigL
import Derived.Deep.RegionHeld3
set_option linter.unusedVariables false
set_option linter.unusedSimpArgs false
namespace Go.Proofs.Ytmilnaiehebalaa.Dig
open Go.RowKit Rd Api Own Mv Word Vec Mix Tab Step

theorem keyed_ok (w : World) (key b : ByteArray) (hk : key.size ≤ 32) (hb : b.size ≤ 2305843009213693952) (h : ByteArray) (hh : keyed key b = h) : Calls Try.prog 18 #[.string key, .string b] w fun e w' => e = .returned (.tuple #[.string h, .int .i64 0]) ∧ Below w.heap.size w w' := by
  have := keyed_any w key b (by omega) hb
  rw [if_pos hk, hh] at this
  exact this
theorem keyed_long (w : World) (key b : ByteArray) (hk : ¬ key.size ≤ 32) (hk2 : key.size ≤ 4611686018427387904) (hb : b.size ≤ 2305843009213693952) : Calls Try.prog 18 #[.string key, .string b] w fun e w' => e = .returned (.tuple #[.string { data := #[] }, .int .i64 1]) ∧ Below w.heap.size w w' := by
  have := keyed_any w key b hk2 hb
  rw [if_neg hk] at this
  exact this
theorem tag_ok (w : World) (key b : ByteArray) (hk : key.size ≤ 32) (hb : b.size ≤ 2305843009213693952) (h : ByteArray) (hh : keyed key b = h) : Calls Try.prog 19 #[.string key, .string b] w fun e w' => e = .returned (.string (h.extract 0 16)) ∧ Below w.heap.size w w' := by
  have := tag_any w key b hk hb
  rw [hh] at this
  exact this
theorem refk_ok (w : World) (key s : ByteArray) (hk : key.size ≤ 32) (hs : s.size ≤ 70368744177664) (h : ByteArray) (hh : keyed key s = h) : Calls Try.prog 14 #[.string key, .string s] w fun e w' => e = .returned (.string h) ∧ Below w.heap.size w w' := by
  have := refk_any w key s hk hs
  rw [hh] at this
  exact this

set_option maxHeartbeats 4000000 in
set_option maxRecDepth 100000 in
theorem tag_long (w : World) (key b : ByteArray) (hk : ¬ key.size ≤ 32) (hk2 : key.size ≤ 4611686018427387904) (hb : b.size ≤ 2305843009213693952) : Calls Try.prog 19 #[.string key, .string b] w fun e w' => e = .returned (.string { data := #[] }) ∧ Below w.heap.size w w' := by
  have hc := keyed_long w key b hk hk2 hb
  go_enter Try.func19, Try.ntmps19
  go_wp2_with (first
    | (go_at_call 18; (with_reducible refine hc.mono ?_); rintro e w1 ⟨rfl, hb1⟩))
  go_ret
  exact ⟨rfl, hb1⟩

set_option maxHeartbeats 4000000 in
set_option maxRecDepth 100000 in
theorem keyed_row (w : World) (key : ByteArray) (hk : key.size ≤ 140737488351232) (b : ByteArray) (hb : b.size ≤ 140737488351232) :
    Calls Try.prog 7 #[.string key, .string b] w fun e w' => e = .returned (.bool true) ∧ Below w.heap.size w w' := by
  by_cases h1 : b.size ≤ 1000
  · have d1 : decide ((1000 : Int) < (b.size : Int)) = false := decide_eq_false (by omega)
    by_cases h2 : key.size ≤ 100
    · have d2 : decide ((100 : Int) < (key.size : Int)) = false := decide_eq_false (by omega)
      by_cases h3 : key.size ≤ 32
      · have d3 : decide ((32 : Int) < (key.size : Int)) = false := decide_eq_false (by omega)
        obtain ⟨h, hh⟩ : ∃ h, keyed key b = h := ⟨_, rfl⟩
        have hsz : h.size = 32 := by rw [← hh]; exact keyed_size _ _
        have hsi : (16 : Int) ≤ (h.size : Int) := by omega
        have hsn : 16 ≤ h.size := by omega
        have H := Sd.mk hh
        clear hh hsz
        go_enter Try.func7, Try.ntmps7
        go_upto_region 7 with (first
          | (go_at_call 12; (with_reducible refine (awake_any _).mono ?_); rintro e w1 ⟨rfl, hb1⟩; have B1 := Sd.mk hb1; clear hb1)
          | (go_at_call 18; (with_reducible refine (keyed_ok _ key b h3 (by omega) h H.out).mono ?_); rintro e w2 ⟨rfl, hb2⟩; have B2 := Sd.mk (below_then B1.out hb2); clear hb2 B1)
          | (go_at_call 14; (with_reducible refine (refk_ok _ key b h3 (by omega) h H.out).mono ?_); rintro e w3 ⟨rfl, hb3⟩; have B3 := Sd.mk (below_then B2.out hb3); clear hb3 B2))
        go_region_held3 (fun W => Sd (Below w.heap.size w W)) (first | exact ⟨below_drew' B3.out⟩ | exact hk5 | fail) (first | (go_at_call 19; (with_reducible refine (tag_ok _ key b h3 (by omega) h H.out).mono ?_); rintro e w4 ⟨rfl, hb4⟩; have hk5 := Sd.mk (below_then (‹Sd (Below _ _ _)›).out hb4)) | fail)
        all_goals
          go_wp2
          go_ret
          exact ⟨rfl, hk5.out⟩
      · have d3 : decide ((32 : Int) < (key.size : Int)) = true := decide_eq_true (by omega)
        go_enter Try.func7, Try.ntmps7
        go_wp2_with (first
          | (go_at_call 12; (with_reducible refine (awake_any _).mono ?_); rintro e w1 ⟨rfl, hb1⟩; have B1 := Sd.mk hb1; clear hb1)
          | (go_at_call 18; (with_reducible refine (keyed_long _ key b h3 (by omega) (by omega)).mono ?_); rintro e w2 ⟨rfl, hb2⟩; have B2 := Sd.mk (below_then B1.out hb2); clear hb2 B1)
          | (go_at_call 19; (with_reducible refine (tag_long _ key b h3 (by omega) (by omega)).mono ?_); rintro e w4 ⟨rfl, hb4⟩; have B4 := Sd.mk (below_then B2.out hb4); clear hb4 B2))
        go_ret
        exact ⟨rfl, B4.out⟩
    · have d2 : decide ((100 : Int) < (key.size : Int)) = true := decide_eq_true (by omega)
      go_enter Try.func7, Try.ntmps7
      go_wp2_with (first
        | (go_at_call 12; (with_reducible refine (awake_any _).mono ?_); rintro e w1 ⟨rfl, hb1⟩; (first | (have B1 := Sd.mk (below_then B0.out hb1)) | have B0 := Sd.mk hb1); clear hb1))
      go_ret
      exact ⟨rfl, B1.out⟩
  · have d1 : decide ((1000 : Int) < (b.size : Int)) = true := decide_eq_true (by omega)
    go_enter Try.func7, Try.ntmps7
    go_wp2_with (first
      | (go_at_call 12; (with_reducible refine (awake_any _).mono ?_); rintro e w1 ⟨rfl, hb1⟩; (first | (have B1 := Sd.mk (below_then B0.out hb1)) | have B0 := Sd.mk hb1); clear hb1))
    go_ret
    exact ⟨rfl, B1.out⟩
end Go.Proofs.Ytmilnaiehebalaa.Dig
