/- ClientArgs, walked. -/
import Derived.Test.YtjpjphdcpdjlkaaApi
set_option linter.unusedVariables false
set_option linter.unusedSimpArgs false
namespace Go.Proofs.Ytjpjphdcpdjlkaa.Client
open Go.RowKit Rd Api

def ok (c n : Int) : Prop := (0 ≤ c ∧ c < 4) ∧ (1 ≤ n ∧ n ≤ 7)
instance (c n : Int) : Decidable (ok c n) := inferInstanceAs (Decidable ((0 ≤ c ∧ c < 4) ∧ (1 ≤ n ∧ n ≤ 7)))

set_option maxHeartbeats 4000000 in
set_option maxRecDepth 100000 in
theorem nodes_any (w : World) (n : Int) : Calls Try.prog 48 #[.int .i64 n] w fun e w' => e = .returned (.bool (decide (1 ≤ n ∧ n ≤ 7))) ∧ Below w.heap.size w w' := by
  by_cases h1 : 1 ≤ n
  · have hd : decide (1 ≤ n) = true := decide_eq_true h1
    have hn : decide (1 ≤ n ∧ n ≤ 7) = decide (n ≤ 7) := decide_eq_decide.2 ⟨fun h => h.2, fun h => ⟨h1, h⟩⟩
    rw [hn]
    clear hn h1
    go_enter Try.func48, Try.ntmps48
    go_wp2
    go_ret
    exact ⟨rfl, Below.refl _ _⟩
  · have hd : decide (1 ≤ n) = false := decide_eq_false h1
    have hn : decide (1 ≤ n ∧ n ≤ 7) = false := decide_eq_false (fun h => h1 h.1)
    rw [hn]
    clear hn h1
    go_enter Try.func48, Try.ntmps48
    go_wp2
    go_ret
    exact ⟨rfl, Below.refl _ _⟩

theorem no44 : ¬ok 4 4 := by decide
theorem ok04 : ok 0 4 := by decide

/-- a session, and what was told with it -/
def Made (w : World) (c n : Int) (e : Ending) (w' : World) : Prop :=
  Below w.heap.size w w' ∧ ((ok c n ∧ ∃ (g : Nat) (cs : Array Value), e = .returned (.tuple #[.pointer (some ⟨g, 0, none⟩), .int .i64 0]) ∧ w'.heap[g]? = some (.cells cs 79 (0, 0)) ∧ cs[4]? = some (.bool false)) ∨ (¬ok c n ∧ e = .returned (.tuple #[.pointer none, .int .i64 1])))

set_option maxHeartbeats 4000000 in
set_option maxRecDepth 100000 in
theorem new_any (w : World) (s : ByteArray) (c n : Int) : Calls Try.prog 28 #[.string s, .int .i64 c, .int .i64 n] w (Made w c n) := by
  by_cases h0 : c < 0
  · have hd : decide (c < 0) = true := decide_eq_true h0
    have K := Sd.mk (show ¬ok c n from fun h => absurd h.1.1 (by omega))
    clear h0
    go_enter Try.func28, Try.ntmps28
    go_wp2
    refine bodyPost_ret (v := .tuple #[.pointer none, .int .i64 1]) (by simp [results, Try.results28, go_sem]) rfl ?_
    exact ⟨Below.refl _ _, .inr ⟨K.out, rfl⟩⟩
  · have hd : decide (c < 0) = false := decide_eq_false h0
    by_cases h1 : 4 ≤ c
    · have hd1 : decide (4 ≤ c) = true := decide_eq_true h1
      have K := Sd.mk (show ¬ok c n from fun h => absurd h.1.2 (by omega))
      clear h0 h1
      go_enter Try.func28, Try.ntmps28
      go_wp2
      refine bodyPost_ret (v := .tuple #[.pointer none, .int .i64 1]) (by simp [results, Try.results28, go_sem]) rfl ?_
      exact ⟨Below.refl _ _, .inr ⟨K.out, rfl⟩⟩
    · have hd1 : decide (4 ≤ c) = false := decide_eq_false h1
      have h2 : ∃ b, decide (1 ≤ n ∧ n ≤ 7) = b := ⟨_, rfl⟩
      obtain ⟨b, hb⟩ := h2
      cases b with
      | false =>
        have K := Sd.mk (show ¬ok c n from fun h => absurd h.2 (of_decide_eq_false hb))
        have Z := Sd.mk hb
        clear h0 h1 hb
        go_enter Try.func28, Try.ntmps28
        go_wp2_with (go_at_call 48; (with_reducible refine (nodes_any _ _).mono ?_); rintro e w' ⟨rfl, hb⟩; rw [Z.out])
        refine bodyPost_ret (v := .tuple #[.pointer none, .int .i64 1]) (by simp [results, Try.results28, go_sem]) rfl ?_
        exact ⟨hb, .inr ⟨K.out, rfl⟩⟩
      | true =>
        have K := Sd.mk (show ok c n from ⟨by omega, of_decide_eq_true hb⟩)
        have Z := Sd.mk hb
        clear h0 h1 hb
        go_enter Try.func28, Try.ntmps28
        go_wp2_with (go_at_call 48; (with_reducible refine (nodes_any _ _).mono ?_); rintro e w' ⟨rfl, hb⟩; rw [Z.out])
        refine bodyPost_ret (by simp [results, Try.results28, go_sem]; rfl) rfl ?_
        exact ⟨below_then hb (below_one _ _), .inl ⟨K.out, _, _, rfl, blk_new _ _, rfl⟩⟩

set_option maxHeartbeats 4000000 in
set_option maxRecDepth 100000 in
theorem retry_any (w : World) (g : Nat) (cs : Array Value) (hg : w.heap[g]? = some (.cells cs 79 (0, 0))) (h4 : cs[4]? = some (.bool false)) :
    Calls Try.prog 49 #[.pointer (some ⟨g, 0, none⟩)] w fun e w' => e = .returned (.slice none 0 0) ∧ Below w.heap.size w w' := by
  have c4 := blk_at hg 4 _ h4
  clear hg h4
  go_enter Try.func49, Try.ntmps49
  go_wp2
  go_ret
  exact ⟨rfl, Below.refl _ _⟩

set_option maxHeartbeats 4000000 in
set_option maxRecDepth 100000 in
theorem awake_any (w : World) : Calls Try.prog 29 #[] w fun e w' => e = .returned (.bool true) ∧ Below w.heap.size w w' := by
  have B0 := Sd.mk (Below.refl w.heap.size w)
  go_enter Try.func29, Try.ntmps29
  go_wp2_with (first
    | (go_at_call 28; (with_reducible refine (new_any _ _ _ _).mono ?_); rintro e w' ⟨hb, hc⟩
       have n0 := Sd.mk (below_then B0.out hb); clear B0 hb; have B0 := n0; clear n0
       (rcases hc with ⟨q, g, cs, rfl, hg, h4⟩ | ⟨q, rfl⟩) <;> first | exact absurd q no44 | exact absurd ok04 q | (have G := Sd.mk hg; have G4 := Sd.mk h4; clear hg h4 q) | (clear q))
    | (go_at_call 49; (with_reducible refine (retry_any _ _ _ G.out G4.out).mono ?_); rintro e w' ⟨rfl, hb⟩))
  go_ret
  exact ⟨rfl, below_then B0.out hb⟩

set_option maxHeartbeats 8000000 in
set_option maxRecDepth 100000 in
theorem args_any (w : World) (c : Int) (wc : (Lit.int IntKind.i64 c).wf = true) (n : Int) (wn : (Lit.int IntKind.i64 n).wf = true) : Calls Try.prog 8 #[.int .i64 c, .int .i64 n] w fun e w' => e = .returned (.bool true) ∧ Below w.heap.size w w' := by
  have B0 := Sd.mk (Below.refl w.heap.size w)
  by_cases h : ok c n
  · have d0 : decide (0 ≤ c) = true := decide_eq_true h.1.1
    have d1 : decide (c < 4) = true := decide_eq_true h.1.2
    have d2 : decide (1 ≤ n) = true := decide_eq_true h.2.1
    have d3 : decide (n ≤ 7) = true := decide_eq_true h.2.2
    have Q := Sd.mk h
    clear h
    go_enter Try.func8, Try.ntmps8
    go_wp2_with (first
      | (go_at_call 28; (with_reducible refine (new_any _ _ _ _).mono ?_); rintro e w' ⟨hb, hc⟩
         obtain ⟨-, g, cs, rfl, -, -⟩ := hc.resolve_right (fun h => h.1 Q.out); have n0 := Sd.mk (below_then B0.out hb); clear B0 hb hc; have B0 := n0; clear n0)
      | (go_at_call 29; (with_reducible refine (awake_any _).mono ?_); rintro e w' ⟨rfl, hb⟩))
    go_ret
    exact ⟨rfl, below_then B0.out hb⟩
  · have Q := Sd.mk h
    have hk : (decide (0 ≤ c) = false) ∨ (decide (0 ≤ c) = true ∧ decide (c < 4) = false) ∨ (decide (0 ≤ c) = true ∧ decide (c < 4) = true ∧ decide (1 ≤ n) = false) ∨ (decide (0 ≤ c) = true ∧ decide (c < 4) = true ∧ decide (1 ≤ n) = true ∧ decide (n ≤ 7) = false) := by
      by_cases h0 : 0 ≤ c
      · by_cases h1 : c < 4
        · by_cases h2 : 1 ≤ n
          · exact .inr (.inr (.inr ⟨decide_eq_true h0, decide_eq_true h1, decide_eq_true h2, decide_eq_false (fun h3 => h ⟨⟨h0, h1⟩, h2, h3⟩)⟩))
          · exact .inr (.inr (.inl ⟨decide_eq_true h0, decide_eq_true h1, decide_eq_false h2⟩))
        · exact .inr (.inl ⟨decide_eq_true h0, decide_eq_false h1⟩)
      · exact .inl (decide_eq_false h0)
    clear h
    rcases hk with d0 | ⟨d0, d1⟩ | ⟨d0, d1, d2⟩ | ⟨d0, d1, d2, d3⟩
    all_goals
      go_enter Try.func8, Try.ntmps8
      go_wp2_with (first
        | (go_at_call 28; (with_reducible refine (new_any _ _ _ _).mono ?_); rintro e w' ⟨hb, hc⟩
           obtain ⟨-, rfl⟩ := hc.resolve_left (fun h => Q.out h.1); have n0 := Sd.mk (below_then B0.out hb); clear B0 hb hc; have B0 := n0; clear n0)
        | (go_at_call 29; (with_reducible refine (awake_any _).mono ?_); rintro e w' ⟨rfl, hb⟩))
      go_ret
      exact ⟨rfl, below_then B0.out hb⟩
end Go.Proofs.Ytjpjphdcpdjlkaa.Client
