/- The timer's functions, walked. -/
import Derived.Test.YtjpjphdcpdjlkaaPTimerPlaysx2
import Derived.StillTailTactics
set_option linter.unusedVariables false
set_option linter.unusedSimpArgs false
namespace Go.Proofs.Ytjpjphdcpdjlkaa.Tim
open Go.RowKit Go.Proofs.Ytjpjphdcpdjlkaa.PTimerPlays Go.Proofs.YtjpjphdcpdjlkaaW.PrintWords Go.Proofs.YtjpjphdcpdjlkaaW.PrintLast Go.Proofs.YtjpjphdcpdjlkaaW.PrintMore
attribute [local go_sem] max2_int min2_int max_two min_two max_three min_three max_four min_four

theorem keep83 {w0 W W1 : World} {g g2 : Nat} {f0 f1 f2 : Int} (h : IsS83 w0 W g2 f0 f1 f2) (hk : KeepBut W W1 g none) (hne : g2 ≠ g) : IsS83 w0 W1 g2 f0 f1 f2 :=
  ⟨(hk.2 g2 h.lt hne (by simp)).trans h.1, h.2⟩
theorem span0 : timer_Span.f 0 = some 4 := by decide +kernel

set_option maxHeartbeats 4000000 in
set_option maxRecDepth 100000 in
theorem new_any (v : Int) (w0 w : World) (hB : Below w0.heap.size w0 w) : Calls Try.prog 30 #[.int .i64 v] w fun e w' => ∃ g, e = .returned (.pointer (some ⟨g, 0, none⟩)) ∧ IsS83 w0 w' g (mn (mx v 1) 1000001) 0 4 ∧ Below w0.heap.size w0 w' ∧ w.heap.size ≤ g ∧ Below w.heap.size w w' := by
  obtain ⟨m, hm⟩ : ∃ m, (if 1000001 < (if v < 1 then 1 else v) then 1000001 else (if v < 1 then 1 else v)) = m := ⟨_, rfl⟩
  have hm' : mn (mx v 1) 1000001 = m := hm
  obtain ⟨x, hx⟩ : ∃ x, (if v < 1 then 1 else v) = x := ⟨_, rfl⟩
  rw [hx] at hm
  go_enter Try.func30, Try.ntmps30
  go_wp2_with (first | (go_at_call 19; (with_reducible refine (timer_Span.calls 0 4 _ span0).mono ?_); rintro e w6 ⟨rfl, hb⟩))
  go_ret
  exact ⟨_, rfl, by rw [hm']; exact IsS83.new w0 w6 m 0 4 (below_step hB hb), below_alloc (below_step hB hb) _, hb.size, below_alloc hb _⟩

set_option maxHeartbeats 4000000 in
set_option maxRecDepth 100000 in
theorem tick_any (g : Nat) (f0 f1 f2 : Int) (w0 w : World) (hI : IsS83 w0 w g f0 f1 f2) (hB : Below w0.heap.size w0 w) (r : Bool × Int × Int × Int)
   (hr : (if 1000001 ≤ f0 then some (false, f0, f1, f2) else if 0 < wrap64 (f2 - 1) then some (false, f0, f1, wrap64 (f2 - 1)) else timer_Timer_begin.f f0 f1 (wrap64 (f2 - 1)) (wrap64 (f0 + 1)) (wrap64 (f1 + 1))) = some r) :
   Calls Try.prog 31 #[.pointer (some ⟨g, 0, none⟩)] w fun e w' => e = .returned (.bool r.1) ∧ IsS83 w0 w' g r.2.1 r.2.2.1 r.2.2.2 ∧ Below w0.heap.size w0 w' ∧ KeepBut w w' g none := by
  have hc0 := cellS83_0 hI.1
  have hc1 := cellS83_1 hI.1
  have hc2 := cellS83_2 hI.1
  have hz2 := blk_frozen hI.1 2
  have HI := Aside0.mk hI
  have HB := Aside0.mk hB
  clear hI hB
  by_cases h1 : 1000001 ≤ f0
  · rw [if_pos h1] at hr
    obtain rfl : _ = r := Option.some.inj hr
    clear hr
    go_enter Try.func31, Try.ntmps31
    go_wp2
    go_ret
    exact ⟨rfl, HI.out, HB.out, KeepBut.refl _ _ _⟩
  rw [if_neg h1] at hr
  by_cases h2 : 0 < wrap64 (f2 - 1)
  · rw [if_pos h2] at hr
    obtain rfl : _ = r := Option.some.inj hr
    clear hr
    have h2' : decide (0 < wrap64 (f2 - 1)) = true := decide_eq_true h2
    go_enter Try.func31, Try.ntmps31
    go_wp2
    go_ret
    exact ⟨rfl, HI.out.set_2 _, below_set HB.out HI.out.2, KeepBut.set_ (KeepBut.refl _ _ _) _ _⟩
  rw [if_neg h2] at hr
  have h2' : decide (0 < wrap64 (f2 - 1)) = false := decide_eq_false h2
  have HR := Aside0.mk hr
  clear hr
  go_enter Try.func31, Try.ntmps31
  go_wp2
  have HI2 := Aside0.mk (HI.out.set_2 (wrap64 (f2 - 1)))
  have HB2 := Aside0.mk (below_set (j := 2) (v := .int .i64 (wrap64 (f2 - 1))) HB.out HI.out.2)
  have HK2 := Aside0.mk (KeepBut.set_ (KeepBut.refl w g none) 2 (.int .i64 (wrap64 (f2 - 1))))
  have hd0 := cellS83_0 HI2.out.1
  have hd1 := cellS83_1 HI2.out.1
  generalize hW : w.setCell { block := g, off := 2 } (Value.int IntKind.i64 (wrap64 (f2 - 1))) = w1 at HI2 HB2 HK2 hd0 hd1 ⊢
  clear hW hc0 hc1 hc2 hz2
  go_still_tail 11, (by kernel_rfl)
  change wpList _ _ _ _ _ w1.drew
  have HI3 := Aside0.mk (HI2.out.drew)
  have HB3 := Aside0.mk (below_drew HB2.out)
  have HK3 := Aside0.mk (keep_drew HK2.out)
  generalize w1.drew = w2 at HI3 HB3 HK3 ⊢
  obtain ⟨r1, r2, r3, r4⟩ := r
  go_wp2_with (first | (go_at_call 50; (with_reducible refine (timer_Timer_begin.calls g f0 f1 (wrap64 (f2 - 1)) (wrap64 (f0 + 1)) (wrap64 (f1 + 1)) r1 r2 r3 r4 w0 _ HI3.out HB3.out HR.out).mono ?_); rintro e w3 ⟨rfl, hi, hb, hk⟩; have HI4 := Aside0.mk hi; have HB4 := Aside0.mk hb; have HK4 := Aside0.mk hk; clear hi hb hk))
  go_ret
  exact ⟨rfl, HI4.out, HB4.out, HK3.out.trans HK4.out (.inl rfl)⟩

/-! ### awake, call -/
theorem span1 : timer_Span.f 1 = some 8 := by decide +kernel
theorem bsize {w w' : World} (h : Below w.heap.size w w') : w.heap.size ≤ w'.heap.size := h.size

set_option maxHeartbeats 4000000 in
set_option maxRecDepth 100000 in
theorem awake_any (w : World) : Calls Try.prog 20 #[] w fun e w' => e = .returned (.bool true) ∧ Below w.heap.size w w' := by
  have HB := Aside0.mk (Below.refl w.heap.size w)
  go_enter Try.func20, Try.ntmps20
  go_wp2_with (first | (go_at_call 30; (with_reducible refine (new_any 3 w _ HB.out).mono ?_); rintro e w' ⟨g, rfl, hi, hb, hg, hb1⟩; have HI := Aside0.mk hi; have n0 := Aside0.mk hb; clear HB hi hb hg hb1; have HB := n0; clear n0) | (go_at_call 32; (with_reducible refine (timer_Timer_View.calls _ 3 0 4 3 3 0 4 w _ HI.out HB.out rfl).mono ?_); rintro e w' ⟨rfl, hi, hb, hk⟩; have n0 := Aside0.mk hb; clear HB hi hb hk; have HB := n0; clear n0) | (go_at_call 19; (with_reducible refine (timer_Span.calls 1 8 _ span1).mono ?_); rintro e w' ⟨rfl, hb⟩; have n0 := Aside0.mk (below_step HB.out hb); clear HB hb; have HB := n0; clear n0))
  go_ret
  exact ⟨rfl, HB.out⟩

/-! ### TimerSpans -/
/-- the span of so many failed views -/
def sp (n : Int) : Int := if n ≤ 0 then 4 else if n = 1 then 8 else 16
theorem span_is (n : Int) : timer_Span.f n = some (sp n) := by
  unfold timer_Span.f sp
  by_cases h0 : n ≤ 0
  · have e : mn (mx n 0) 2 = 0 := by
      unfold mn mx; (repeat' split) <;> omega
    rw [if_pos h0, e]; decide +kernel
  · by_cases h1 : n = 1
    · subst h1; decide +kernel
    · have e : mn (mx n 0) 2 = 2 := by
        unfold mn mx; (repeat' split) <;> omega
      rw [if_neg h0, if_neg h1, e]; decide +kernel
theorem sp_range (n : Int) : 4 ≤ sp n ∧ sp n ≤ 16 := by unfold sp; (repeat' split) <;> omega
theorem sp_mono (n : Int) : sp n ≤ sp (n + 1) := by unfold sp; (repeat' split) <;> omega
theorem ref_zero (k : Nat) (x : Int) (h : x ≤ 0) : comitiaref15_Span.f (k + 1) x = some 4 := by
  unfold comitiaref15_Span.f; simp only [comitiaref15_Span.l0]; rw [if_neg (by omega)]
theorem ref_one (k : Nat) : comitiaref15_Span.f (k + 2) 1 = some 8 := by
  unfold comitiaref15_Span.f; simp only [comitiaref15_Span.l0]
  rw [if_pos (by omega), if_pos (by omega), show wrap64 (4 * 2) = 8 by decide +kernel, show wrap64 (0 + 1) = 1 by decide +kernel, if_neg (by omega)]
theorem ref_more (k : Nat) (x : Int) (h : 2 ≤ x) : comitiaref15_Span.f (k + 3) x = some 16 := by
  unfold comitiaref15_Span.f; simp only [comitiaref15_Span.l0]
  rw [if_pos (by omega), if_pos (by omega), show wrap64 (4 * 2) = 8 by decide +kernel, show wrap64 (0 + 1) = 1 by decide +kernel, if_pos (by omega), if_pos (by omega), show wrap64 (8 * 2) = 16 by decide +kernel, show wrap64 (1 + 1) = 2 by decide +kernel]
  by_cases h2 : 2 < x
  · rw [if_pos h2, if_neg (by omega)]
  · rw [if_neg h2]
theorem ref_is (n : Int) : comitiaref15_Span.f 3 n = some (sp n) := by
  unfold sp
  by_cases h0 : n ≤ 0
  · rw [if_pos h0]; exact ref_zero 2 n h0
  · by_cases h1 : n = 1
    · subst h1; exact ref_one 1
    · rw [if_neg h0, if_neg h1]; exact ref_more 0 n (by omega)
theorem sp_cut (n : Int) : sp (if 10 < (if n < 0 then 0 else n) then 10 else (if n < 0 then 0 else n)) = sp n := by
  unfold sp; (repeat' split) <;> omega
theorem drawn_below {w w' : World} (h : Drawn0 w w') : Below w.heap.size w w' := h.below

set_option maxHeartbeats 4000000 in
set_option maxRecDepth 100000 in
theorem spans_any (w : World) (n : Int) (hn : (Lit.int .i64 n).wf = true) : Calls Try.prog 4 #[.int .i64 n] w fun e w' => e = .returned (.bool true) ∧ Below w.heap.size w w' := by
  obtain ⟨l1, l2⟩ : -9223372036854775808 ≤ n ∧ n ≤ 9223372036854775807 := by simpa [Lit.wf, IntKind.min, IntKind.max, IntKind.bits, IntKind.signed] using hn
  have HB := Aside0.mk (Below.refl w.heap.size w)
  obtain ⟨m, hm⟩ : ∃ m, (if 10 < (if n < 0 then 0 else n) then 10 else (if n < 0 then 0 else n)) = m := ⟨_, rfl⟩
  have hsm := sp_cut n
  rw [hm] at hsm
  have hr := ref_is m
  rw [hsm] at hr
  have HR := Aside0.mk hr
  have HS := Aside0.mk (span_is n)
  obtain ⟨s, hs⟩ : ∃ s, sp n = s := ⟨_, rfl⟩
  have hr1 := sp_range n
  rw [hs] at HR HS hr1
  have h4 : decide (s < 4) = false := decide_eq_false (by omega)
  have h16 : decide (16 < s) = false := decide_eq_false (by omega)
  have hss : (s != s) = false := by simp
  obtain ⟨x, hx⟩ : ∃ x, (if n < 0 then 0 else n) = x := ⟨_, rfl⟩
  rw [hx] at hm
  clear hsm hr hs hn
  by_cases hl : n = 9223372036854775807
  · have hl' : (n == 9223372036854775807) = true := by simp [hl]
    clear hl
    go_enter Try.func4, Try.ntmps4
    go_wp2_with (first | (go_at_call 20; (with_reducible refine (awake_any _).mono ?_); rintro e w' ⟨rfl, hb⟩; have n0 := Aside0.mk (below_step HB.out hb); clear HB hb; have HB := n0; clear n0) | (go_at_call 19; (with_reducible refine (timer_Span.calls n s _ HS.out).mono ?_); rintro e w' ⟨rfl, hb⟩; have n0 := Aside0.mk (below_step HB.out hb); clear HB hb; have HB := n0; clear n0) | (go_at_call 21; (with_reducible refine (comitiaref15_Span.calls 3 m s _ HR.out).mono ?_); rintro e w' ⟨rfl, hb⟩; have n0 := Aside0.mk (below_step HB.out hb.below); clear HB hb; have HB := n0; clear n0))
    go_ret
    exact ⟨rfl, HB.out⟩
  · have hl' : (n == 9223372036854775807) = false := by simpa using hl
    have h2 : sp n ≤ sp (n + 1) := sp_mono n
    have HT := Aside0.mk (span_is (n + 1))
    obtain ⟨s2, hs2⟩ : ∃ s2, sp (n + 1) = s2 := ⟨_, rfl⟩
    rw [hs2] at HT h2
    have hs : sp n = s := by have := HS.out; rw [span_is] at this; exact Option.some.inj this
    rw [hs] at h2
    have h3 : n + 1 ≤ 9223372036854775807 := by omega
    clear hl hs2 hs
    go_enter Try.func4, Try.ntmps4
    go_wp2_with (first | (go_at_call 20; (with_reducible refine (awake_any _).mono ?_); rintro e w' ⟨rfl, hb⟩; have n0 := Aside0.mk (below_step HB.out hb); clear HB hb; have HB := n0; clear n0) | (go_at_call 19; (first | (with_reducible refine (timer_Span.calls n s _ HS.out).mono ?_) | (with_reducible refine (timer_Span.calls (n + 1) s2 _ HT.out).mono ?_)); rintro e w' ⟨rfl, hb⟩; have n0 := Aside0.mk (below_step HB.out hb); clear HB hb; have HB := n0; clear n0) | (go_at_call 21; (with_reducible refine (comitiaref15_Span.calls 3 m s _ HR.out).mono ?_); rintro e w' ⟨rfl, hb⟩; have n0 := Aside0.mk (below_step HB.out hb.below); clear HB hb; have HB := n0; clear n0))
    go_ret
    exact ⟨rfl, HB.out⟩
end Go.Proofs.Ytjpjphdcpdjlkaa.Tim
