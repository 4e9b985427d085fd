/- MacKeys: walked. -/
import Derived.Test.YtmilnaiehebalaaMacK
import Derived.Test.YtmilnaiehebalaaArr
set_option linter.unusedVariables false
set_option linter.unusedSimpArgs false
namespace Go.Proofs.Ytmilnaiehebalaa.Mac
open Go.RowKit Rd Api Own Mv Num Dig

theorem three (a : Int) : (decide (a < 0) = true ∧ ∃ x, x = 0 ∧ endF a = x) ∨ (decide (a < 0) = false ∧ decide (20 < a) = true ∧ ∃ x, x = 0 ∧ endF a = x) ∨ (decide (a < 0) = false ∧ decide (20 < a) = false ∧ endF a = a) := by
  unfold endF
  by_cases h0 : a < 0
  · exact .inl ⟨decide_eq_true h0, 0, rfl, by rw [if_pos (.inl h0)]⟩
  · by_cases h1 : 20 < a
    · exact .inr (.inl ⟨decide_eq_false h0, decide_eq_true h1, 0, rfl, by rw [if_pos (.inr h1)]⟩)
    · exact .inr (.inr ⟨decide_eq_false h0, decide_eq_false h1, by rw [if_neg (by omega)]⟩)

set_option maxHeartbeats 4000000 in
set_option maxRecDepth 100000 in
theorem nodes_any (w : World) (n : Int) (b : Bool) (hb : decide (1 ≤ n ∧ n ≤ 7) = b) : Calls Try.prog 27 #[.int .i64 n] w fun e w' => e = .returned (.bool b) ∧ w' = w := by
  subst hb
  by_cases h0 : 1 ≤ n
  · have d0 : decide (1 ≤ n) = true := decide_eq_true h0
    by_cases h1 : n ≤ 7
    · have d1 : decide (n ≤ 7) = true := decide_eq_true h1
      rw [decide_eq_true (show 1 ≤ n ∧ n ≤ 7 from ⟨h0, h1⟩)]
      clear h0 h1
      go_enter Try.func27, Try.ntmps27
      go_wp2
      go_ret
      exact ⟨rfl, rfl⟩
    · have d1 : decide (n ≤ 7) = false := decide_eq_false h1
      rw [decide_eq_false (show ¬ (1 ≤ n ∧ n ≤ 7) from fun h => h1 h.2)]
      clear h0 h1
      go_enter Try.func27, Try.ntmps27
      go_wp2
      go_ret
      exact ⟨rfl, rfl⟩
  · have d0 : decide (1 ≤ n) = false := decide_eq_false h0
    rw [decide_eq_false (show ¬ (1 ≤ n ∧ n ≤ 7) from fun h => h0 h.1)]
    clear h0
    go_enter Try.func27, Try.ntmps27
    go_wp2
    go_ret
    exact ⟨rfl, rfl⟩

set_option maxHeartbeats 4000000 in
set_option maxRecDepth 100000 in
theorem sign_bad (w : World) (seed : ByteArray) (fr n : Int) (tx : ByteArray) (h : ¬ ((1 ≤ n ∧ n ≤ 7) ∧ 0 ≤ fr ∧ fr < n)) :
    Calls Try.prog 25 #[.string seed, .int .i64 fr, .int .i64 n, .string tx] w fun e w' => e = .returned (.tuple #[.agg #[.int .i64 0, .slice none 0 0], .int .i64 1]) ∧ Below w.heap.size w w' := by
  by_cases h0 : 1 ≤ n ∧ n ≤ 7
  · by_cases h1 : fr < 0
    · have d0 : decide (fr < 0) = true := decide_eq_true h1
      have hn := fun W => nodes_any W n true (decide_eq_true h0)
      clear h h0 h1
      go_enter Try.func25, Try.ntmps25
      go_wp2_with (first | (go_at_call 27; (with_reducible refine (hn _).mono ?_); rintro e w1 ⟨rfl, rfl⟩))
      exact bodyPost_ret (v := .tuple #[.agg #[.int .i64 0, .slice none 0 0], .int .i64 1]) (by simp [results, Try.results25, go_sem]) rfl ⟨rfl, below_one _ _⟩
    · have d0 : decide (fr < 0) = false := decide_eq_false h1
      have d1 : decide (n ≤ fr) = true := decide_eq_true (by omega)
      have hn := fun W => nodes_any W n true (decide_eq_true h0)
      clear h h0 h1
      go_enter Try.func25, Try.ntmps25
      go_wp2_with (first | (go_at_call 27; (with_reducible refine (hn _).mono ?_); rintro e w1 ⟨rfl, rfl⟩))
      exact bodyPost_ret (v := .tuple #[.agg #[.int .i64 0, .slice none 0 0], .int .i64 1]) (by simp [results, Try.results25, go_sem]) rfl ⟨rfl, below_one _ _⟩
  · have hn := fun W => nodes_any W n false (decide_eq_false h0)
    clear h h0
    go_enter Try.func25, Try.ntmps25
    go_wp2_with (first | (go_at_call 27; (with_reducible refine (hn _).mono ?_); rintro e w1 ⟨rfl, rfl⟩))
    exact bodyPost_ret (v := .tuple #[.agg #[.int .i64 0, .slice none 0 0], .int .i64 1]) (by simp [results, Try.results25, go_sem]) rfl ⟨rfl, below_one _ _⟩

set_option maxHeartbeats 4000000 in
set_option maxRecDepth 100000 in
theorem awake_any (w : World) : Calls Try.prog 20 #[] w fun e w' => e = .returned (.bool true) ∧ Below w.heap.size w w' := by
  have hs := fun W => sign_bad W { data := #[] } 0 0 { data := #[] } (by omega)
  have hn := fun W => nodes_any W 4 true (by decide)
  go_enter Try.func20, Try.ntmps20
  go_wp2_with (first
    | (go_at_call 25; (with_reducible refine (hs _).mono ?_); rintro e w1 ⟨rfl, hb1⟩)
    | (go_at_call 27; (with_reducible refine (hn _).mono ?_); rintro e w2 ⟨rfl, rfl⟩))
  go_ret
  exact ⟨rfl, below_then hb1 (below_one _ _)⟩

/-- the array's block, and what was there -/
def Kp (w : World) (g : Nat) (a b : Int) (W : World) : Prop := W.heap[g]? = some (.cells #[.int .i64 a, .int .i64 b] 39 (0, 0)) ∧ Below w.heap.size w W
theorem mv_kp (w : World) (g : Nat) (a b : Int) : Mv (Kp w g a b) := mv_and (mv_blk _ _) (mv_bel w)
theorem Kp.all {w : World} {g : Nat} {a b : Int} {W : World} (h : Kp w g a b W) : W.cell? ⟨g, 0, none⟩ = some (.int .i64 a) ∧ W.cell? ⟨g, 1, none⟩ = some (.int .i64 b) := ⟨blk_at h.1 0 _ rfl, blk_at h.1 1 _ rfl⟩

set_option maxHeartbeats 4000000 in
set_option maxRecDepth 100000 in
theorem keys_few (w : World) (seed tx : ByteArray) (hs : seed.size ≤ 100) (ht : tx.size ≤ 100) (a b : Int) :
    Calls Try.prog 8 #[.string seed, .string tx, .agg #[.int .i64 a, .int .i64 b]] w fun e w' => e = .returned (.bool true) ∧ Below w.heap.size w w' := by
  have d1 : decide ((100 : Int) < (seed.size : Int)) = false := decide_eq_false (by omega)
  have d2 : decide ((100 : Int) < (tx.size : Int)) = false := decide_eq_false (by omega)
  obtain ⟨k, hk⟩ : ∃ k, mkey seed (endF a) (endF b) = k := ⟨_, rfl⟩
  obtain ⟨x, hx⟩ : ∃ x, mtag seed (endF a) (endF b) tx = x := ⟨_, rfl⟩
  have HK := Sd.mk hk
  have HC := Sd.mk (show mkey seed (endF b) (endF a) = k by rw [mkey_comm]; exact hk)
  have HX := Sd.mk hx
  have hs2 : seed.size ≤ 35184372088832 := by omega
  have ht2 : tx.size ≤ 35184372088832 := by omega
  have HS := Sd.mk (show Kp w w.heap.size a b (w.alloc (.cells #[.int .i64 a, .int .i64 b] 39)) from ⟨blk_new _ _, below_one _ _⟩)
  clear hk hx hs ht
  rcases three a with ⟨p0, x0, p1, p2⟩ | ⟨p0, pp, x0, p1, p2⟩ | ⟨p0, pp, p2⟩ <;> rcases three b with ⟨q0, y0, q1, q2⟩ | ⟨q0, qq, y0, q1, q2⟩ | ⟨q0, qq, q2⟩
  all_goals
    have HP := Sd.mk p2
    have HQ := Sd.mk q2
    (try subst p1)
    (try subst q1)
    clear p2 q2
    go_enter Try.func8, Try.ntmps8
    go_upto_region 1 with (fail)
    generalize w.alloc _ = W at HS ⊢
    go_upto_region 3 with (first
      | (go_at_call 20; (with_reducible refine (awake_any _).mono ?_); rintro e w1 ⟨rfl, hb1⟩; have HS1 := Sd.mk ((mv_kp _ _ _ _).below HS.out hb1); clear hb1 HS))
    obtain ⟨c0, c1⟩ := HS1.out.all
    go_quiet (fail)
    go_upto_region 4 with (fail)
    have HS2 := Sd.mk ((mv_kp _ _ _ _).drewN HS1.out nq)
    clear c0 c1 HS1
    generalize w1.drewN nq = W2 at HS2 ⊢
    obtain ⟨c0, c1⟩ := HS2.out.all
    go_upto_region 9 with (first
      | (go_at_call 21; (with_reducible refine (key_any _ seed a b hs2 k HK.out).mono ?_); rintro e w3 ⟨rfl, hb3⟩; have HS3 := Sd.mk ((mv_kp _ _ _ _).below HS2.out hb3); clear hb3 HS2 c0 c1; obtain ⟨c0, c1⟩ := HS3.out.all))
    go_wp2_with (first
      | (go_at_call 22; (with_reducible refine (refkey_any _ seed _ _ hs2 k (by rw [← HK.out, HP.out, HQ.out])).mono ?_); rintro e w4 ⟨rfl, hb4⟩; have HS4 := Sd.mk ((mv_kp _ _ _ _).below HS3.out hb4); clear hb4 HS3 c0 c1; obtain ⟨c0, c1⟩ := HS4.out.all)
      | (go_at_call 21; (with_reducible refine (key_any _ seed b a hs2 k HC.out).mono ?_); rintro e w5 ⟨rfl, hb5⟩; have HS5 := Sd.mk ((mv_kp _ _ _ _).below HS4.out hb5); clear hb5 HS4 c0 c1; obtain ⟨c0, c1⟩ := HS5.out.all)
      | (go_at_call 23; (with_reducible refine (mactag_any _ seed a b tx hs2 ht2 x HX.out).mono ?_); rintro e w6 ⟨rfl, hb6⟩; have HS6 := Sd.mk ((mv_kp _ _ _ _).below HS5.out hb6); clear hb6 HS5 c0 c1)
      | (go_at_call 24; (with_reducible refine (reftag_any _ seed _ _ tx hs2 ht2 x (by rw [← HX.out, HP.out, HQ.out])).mono ?_); rintro e w7 ⟨rfl, hb7⟩; have HS7 := Sd.mk ((mv_kp _ _ _ _).below HS6.out hb7); clear hb7 HS6))
    go_ret
    exact ⟨rfl, HS7.out.2⟩

set_option maxHeartbeats 4000000 in
set_option maxRecDepth 100000 in
theorem keys_row (w : World) (seed : ByteArray) (hs : seed.size ≤ 140737488351232) (tx : ByteArray) (ht : tx.size ≤ 140737488351232) (l : List Int) (cs : Array Value) (h : (Rk.arr (Rk.int .i64) 2).K w l cs.toList) :
    Calls Try.prog 8 #[.string seed, .string tx, .agg cs] w fun e w' => e = .returned (.bool true) ∧ Below w.heap.size w w' := by
  obtain ⟨a, b, e1, -, -⟩ := Arr.two_ints h
  obtain rfl := Api.arr_of e1
  by_cases h1 : seed.size ≤ 100
  · by_cases h2 : tx.size ≤ 100
    · exact keys_few w seed tx h1 h2 a b
    · have d1 : decide ((100 : Int) < (seed.size : Int)) = false := decide_eq_false (by omega)
      have d2 : decide ((100 : Int) < (tx.size : Int)) = true := decide_eq_true (by omega)
      go_enter Try.func8, Try.ntmps8
      go_wp2_with (first
        | (go_at_call 20; (with_reducible refine (awake_any _).mono ?_); rintro e w1 ⟨rfl, hb1⟩; (first | (have B1 := Sd.mk (below_then B0.out hb1)) | have B0 := Sd.mk (below_then (below_one _ _) hb1)); clear hb1))
      go_ret
      exact ⟨rfl, B1.out⟩
  · have d1 : decide ((100 : Int) < (seed.size : Int)) = true := decide_eq_true (by omega)
    go_enter Try.func8, Try.ntmps8
    go_wp2_with (first
      | (go_at_call 20; (with_reducible refine (awake_any _).mono ?_); rintro e w1 ⟨rfl, hb1⟩; (first | (have B1 := Sd.mk (below_then B0.out hb1)) | have B0 := Sd.mk (below_then (below_one _ _) hb1)); clear hb1))
    go_ret
    exact ⟨rfl, B1.out⟩
end Go.Proofs.Ytmilnaiehebalaa.Mac
