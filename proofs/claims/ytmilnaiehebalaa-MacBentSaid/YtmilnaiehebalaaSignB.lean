/- MacSigns: walked. -/
import Derived.Test.YtmilnaiehebalaaSignA
import Derived.Test.YtmilnaiehebalaaMacM
set_option linter.unusedVariables false
set_option linter.unusedSimpArgs false
namespace Go.Proofs.Ytmilnaiehebalaa.Mac
open Go.RowKit Rd Api Own Mv Num Dig Sg

/-- a row of the call's own, of strings that are no longer than allowed -/
theorem own_sl {W : World} {base : Nat} {v : Value} {xs : List ByteArray} (h : OwnR fS 1 W base 9 v xs) (hm : ∀ x ∈ xs, x.size ≤ maxLen) : ∃ A c, v = .slice A xs.length c ∧ Sl Rk.str W A c xs := by
  rcases h.2 with ⟨rfl, h0⟩ | ⟨g, cap, cur, rfl, hb, hh, hle, hcap, hsz, hcur⟩
  · obtain rfl : xs = [] := List.eq_nil_of_length_eq_zero h0
    exact ⟨none, 0, rfl, Nat.le_refl _, by omega, fun j x hx => by simp at hx⟩
  · refine ⟨_, cap, rfl, hle, by unfold maxLen at hcap; omega, fun j x hx => ⟨g, 0, fS x, rfl, ⟨rfl, hm x (List.mem_of_getElem? hx)⟩, fun i w hv => ?_⟩⟩
    have hg := flat_get (f := fS) (n := 1) (fun _ => rfl) xs j x hx i w hv
    rw [← hcur, List.getElem?_take] at hg
    split at hg
    · unfold World.cell?
      rw [hh]
      simpa [Rk.str] using hg
    · cases hg
theorem tagsF_le (seed : ByteArray) (fr : Int) (tx : ByteArray) (n : Nat) : ∀ x ∈ tagsF seed fr tx n, x.size ≤ maxLen := fun x hx => by
  simp only [tagsF, List.mem_map] at hx
  obtain ⟨i, -, rfl⟩ := hx
  rw [mtag_size]
  decide
theorem tagsF_16 (seed : ByteArray) (fr : Int) (tx : ByteArray) (n : Nat) : all16 (tagsF seed fr tx n) := fun j h => by
  simp only [tagsF, List.getElem_map]
  exact mtag_size _ _ _ _
theorem tags_hold (seed : ByteArray) (fr : Int) (tx : ByteArray) (n t : Nat) (hn : 1 ≤ n ∧ n ≤ 7) (hf : 0 ≤ fr ∧ fr < (n : Int)) (ht : t < n) : holdsF seed t n tx fr (tagsF seed fr tx n) :=
  ⟨by omega, by omega, hf, by rw [tagsF_length], tagsF_16 _ _ _ _, by rw [Int.toNat_natCast, tagsF_at _ _ _ ht]⟩

set_option maxHeartbeats 4000000 in
set_option maxRecDepth 100000 in
theorem zerosig_any (w : World) : Calls Try.prog 26 #[.agg #[.int .i64 0, .slice none 0 0]] w fun e w' => e = .returned (.bool true) ∧ Below w.heap.size w w' := by
  go_enter Try.func26, Try.ntmps26
  go_wp2
  go_ret
  exact ⟨rfl, below_one _ _⟩

theorem holds_len (w : World) (seed tx : ByteArray) (tn n fr : Int) (A : Option Addr) (c : Nat) (l : List ByteArray) (m : Nat) (hm : l.length = m) (h : Sl Rk.str w A c l) (hs : seed.size ≤ 35184372088832) (ht : tx.size ≤ 35184372088832) (r : Bool) (hr : r = true ↔ holdsF seed tn n tx fr l) :
    Calls Try.prog 28 #[.string seed, .int .i64 tn, .int .i64 n, .string tx, .agg #[.int .i64 fr, .slice A m c]] w fun e w' => e = .returned (.bool r) ∧ Below w.heap.size w w' := by
  subst hm; exact holds_any w seed tx tn n fr A c l h hs ht r hr

/-- the array's block -/
def Ka (w : World) (g5 : Nat) (a b : Int) (W : World) : Prop := W.heap[g5]? = some (.cells #[.int .i64 a, .int .i64 b] 39 (0, 0)) ∧ Below w.heap.size w W
theorem mv_ka (w : World) (g5 : Nat) (a b : Int) : Mv (Ka w g5 a b) := mv_and (mv_blk _ _) (mv_bel w)

set_option maxHeartbeats 8000000 in
set_option maxRecDepth 100000 in
theorem ms_few (w : World) (seed tx : ByteArray) (h60 : seed.size ≤ 60) (t60 : tx.size ≤ 60) (fr n : Int) :
    Calls Try.prog 9 #[.string seed, .string tx, .agg #[.int .i64 fr, .int .i64 n]] w fun e w' => e = .returned (.bool true) ∧ Below w.heap.size w w' := by
  have d1 : decide ((60 : Int) < (seed.size : Int)) = false := decide_eq_false (by omega)
  have d2 : decide ((60 : Int) < (tx.size : Int)) = false := decide_eq_false (by omega)
  have hs2 : seed.size ≤ 35184372088832 := by omega
  have ht2 : tx.size ≤ 35184372088832 := by omega
  have HK := Sd.mk (show Ka w w.heap.size fr n (w.alloc (.cells #[.int .i64 fr, .int .i64 n] 39)) from ⟨blk_new _ _, below_one _ _⟩)
  clear h60 t60
  go_enter Try.func9, Try.ntmps9
  go_upto_region 1 with (fail)
  generalize w.alloc _ = W at HK ⊢
  go_upto_region 3 with (first
    | (go_at_call 20; (with_reducible refine (awake_any _).mono ?_); rintro e w1 ⟨rfl, hb1⟩; have HK1 := Sd.mk ((mv_ka _ _ _ _).below HK.out hb1); clear hb1 HK))
  have c2 := blk_at HK1.out.1 0 _ rfl
  have c3 := blk_at HK1.out.1 1 _ rfl
  go_quiet (fail)
  go_upto_region 4 with (fail)
  have HB := Sd.mk (below_drewN HK1.out.2 nq)
  clear c2 c3 HK1
  generalize w1.drewN nq = W2 at HB ⊢
  by_cases hok : (1 ≤ n ∧ n ≤ 7) ∧ 0 ≤ fr ∧ fr < n
  · obtain ⟨⟨n1, n7⟩, f0, f1⟩ := hok
    obtain ⟨m, rfl⟩ : ∃ m : Nat, n = (m : Int) := ⟨n.toNat, by omega⟩
    have m17 : 1 ≤ m ∧ m ≤ 7 := by omega
    have hfm : 0 ≤ fr ∧ fr < (m : Int) := ⟨f0, f1⟩
    have hsg := fun W => sign_ok W seed fr m tx hfm m17 hs2 ht2
    have q1 : decide ((m : Int) < 1) = false := decide_eq_false (by omega)
    have q2 : decide ((7 : Int) < (m : Int)) = false := decide_eq_false (by omega)
    have q3 : decide (fr < 0) = false := decide_eq_false (by omega)
    have q4 : decide ((m : Int) ≤ fr) = false := decide_eq_false (by omega)
    have HM := Sd.mk m17
    have HF := Sd.mk hfm
    have m7 : m ≤ 7 := m17.2
    clear n1 n7 f0 f1 m17 hfm
    go_upto_region 5 with (first
      | (go_at_call 25; (with_reducible refine (hsg _).mono ?_); rintro e w3 ⟨v, rfl, hown, hb3⟩
         obtain ⟨A, c, rfl, hsl⟩ := own_sl hown (tagsF_le _ _ _ _)
         rw [tagsF_length]
         have HB3 := Sd.mk (below_then HB.out hb3); clear hb3 HB hown))
    have HS := Sd.mk (hsl.below (below_one w3 (.cells #[.int .i64 fr, .slice A m c] 44)))
    have HB4 := Sd.mk (below_then HB3.out (below_one w3 (.cells #[.int .i64 fr, .slice A m c] 44)))
    have R9 := Sd.mk (blk_new w3 (.cells #[.int .i64 fr, .slice A m c] 44))
    clear hsl HB3 hsg
    generalize w3.alloc _ = w4 at HS HB4 R9 ⊢
    generalize w3.heap.size = g at R9 ⊢
    clear w3
    have a0 := blk_at R9.out 0 _ rfl
    have a1 := blk_at R9.out 1 _ rfl
    go_wp2
    clear a0 a1
    go_loopg [11] m (fun gk v11 wr => ∃ i, i + gk = m ∧ v11 = .int .i64 (i : Nat) ∧ Sd (Below w4.heap.size w4 wr))
    case atStart => exact ⟨0, by omega, rfl, ⟨Below.refl _ _⟩⟩
    case round =>
      obtain ⟨i, hi, rfl, HX⟩ := hrel
      by_cases hlt : i < m
      · have hii : (i : Int) < m := by omega
        obtain ⟨y, hy⟩ : ∃ y, mtag seed fr (i : Nat) tx = y := ⟨_, rfl⟩
        have hz : (tagsF seed fr tx m)[i]'(by rw [tagsF_length]; exact hlt) = y := by
          have h1 := tagsF_at seed fr tx hlt
          rw [List.getElem?_eq_getElem (by rw [tagsF_length]; exact hlt)] at h1
          rw [Option.some.inj h1, endF_id HF.out.1 (by have := HF.out.2; omega), endF_id (by omega) (by omega)]
          exact hy
        obtain ⟨b, o, rfl, hcell, -⟩ := str_at HS.out.row (i := i) (by rw [tagsF_length]; exact hlt)
        rw [hz] at hcell
        have HY := Sd.mk hy
        have hh := tags_hold seed fr tx m i HM.out HF.out hlt
        have HH := Sd.mk hh
        have HA := Sd.mk (fun (W : World) (hb : Below w4.heap.size w4 W) => (⟨cell_below hb (blk_at R9.out 0 _ rfl), cell_below hb (blk_at R9.out 1 _ rfl), cell_below hb hcell, ⟨hb⟩⟩ : W.cell? ⟨g, 0, none⟩ = some (.int .i64 fr) ∧ W.cell? ⟨g, 1, none⟩ = some (.slice (some ⟨b, o, none⟩) m c) ∧ W.cell? ⟨b, o + i, none⟩ = some (.string y) ∧ Sd (Below w4.heap.size w4 W)))
        clear hy hz hcell hh
        go_upto_region 12 with (fail)
        go_region_held3 (fun W => W.cell? ⟨g, 0, none⟩ = some (.int .i64 fr) ∧ W.cell? ⟨g, 1, none⟩ = some (.slice (some ⟨b, o, none⟩) m c) ∧ W.cell? ⟨b, o + i, none⟩ = some (.string y) ∧ Sd (Below w4.heap.size w4 W)) (first | exact HA.out _ (below_drew' HX.out) | exact HA.out _ hk | fail) (first | (go_at_call 24; (with_reducible refine (reftag_any _ seed fr i tx hs2 ht2 y HY.out).mono ?_); rintro e w5 ⟨rfl, hb5⟩; have hk := below_then (‹_ ∧ _ ∧ _ ∧ Sd (Below _ w4 _)›).2.2.2.out hb5) | (go_at_call 28; (refine (holds_len _ seed tx i m fr (some ⟨b, o, none⟩) c (tagsF seed fr tx m) m (tagsF_length _ _ _ _) (HS.out.below (‹_ ∧ _ ∧ _ ∧ Sd (Below _ w4 _)›).2.2.2.out) hs2 ht2 true ⟨fun _ => HH.out, fun _ => rfl⟩).mono ?_); rintro e w6 ⟨rfl, hb6⟩; have hk := below_then (‹_ ∧ _ ∧ _ ∧ Sd (Below _ w4 _)›).2.2.2.out hb6) | fail)
        all_goals
          have HK9 := Sd.mk hk
          clear hk
          go_wp2
          go_roundg (gk - 1)
          case measure => omega
          case rel => exact ⟨i + 1, by omega, by go_num, HK9⟩
      · have hii : decide (i < m) = false := decide_eq_false (by omega)
        obtain rfl : i = m := by omega
        have a0 := cell_below HX.out (blk_at R9.out 0 _ rfl)
        have a1 := cell_below HX.out (blk_at R9.out 1 _ rfl)
        have H1 := Sd.mk (show (false = true ↔ holdsF seed (-1) (i : Nat) tx fr (tagsF seed fr tx i)) from ⟨fun h => (by cases h), fun h => absurd h.2.1.1 (by decide)⟩)
        have H2 := Sd.mk (show (false = true ↔ holdsF seed (i : Nat) (i : Nat) tx fr (tagsF seed fr tx i)) from ⟨fun h => (by cases h), fun h => absurd h.2.1.2 (by omega)⟩)
        go_wp2_with (first
          | (go_at_call 28; (refine (holds_len _ seed tx (-1) i fr A c (tagsF seed fr tx i) i (tagsF_length _ _ _ _) (HS.out.below HX.out) hs2 ht2 false H1.out).mono ?_); rintro e w5 ⟨rfl, hb5⟩; have HX5 := Sd.mk (below_then HX.out hb5); clear a0 a1 HX hb5; have a0 := cell_below HX5.out (blk_at R9.out 0 _ rfl); have a1 := cell_below HX5.out (blk_at R9.out 1 _ rfl))
          | (go_at_call 28; (refine (holds_len _ seed tx i i fr A c (tagsF seed fr tx i) i (tagsF_length _ _ _ _) (HS.out.below HX5.out) hs2 ht2 false H2.out).mono ?_); rintro e w6 ⟨rfl, hb6⟩; have HX6 := Sd.mk (below_then HX5.out hb6); clear a0 a1 HX5 hb6))
        go_ret
        exact ⟨rfl, below_then HB4.out HX6.out⟩
  · have hsb := fun W => sign_bad W seed fr n tx hok
    have hN := fun W => nodes_any W n (decide (1 ≤ n ∧ n ≤ 7)) rfl
    go_upto_region 5 with (first
      | (go_at_call 25; (with_reducible refine (hsb _).mono ?_); rintro e w3 ⟨rfl, hb3⟩; have HB3 := Sd.mk (below_then HB.out hb3); clear hb3 HB))
    by_cases e1 : n < 1
    · have g1 : decide (n < 1) = true := decide_eq_true e1
      have g2 : decide (1 ≤ n) = false := decide_eq_false (by omega)
      have g3 : decide (1 ≤ n ∧ n ≤ 7) = false := decide_eq_false (by omega)
      clear e1
      clear hok
      go_wp2_with (first
        | (go_at_call 26; (with_reducible refine (zerosig_any _).mono ?_); rintro e w4 ⟨rfl, hb4⟩)
        | (go_at_call 27; (with_reducible refine (hN _).mono ?_); rintro e w5 ⟨rfl, rfl⟩))
      go_ret
      exact ⟨rfl, below_then (below_then HB3.out (below_one w3 _)) hb4⟩
    · have g1 : decide (n < 1) = false := decide_eq_false e1
      have g2 : decide (1 ≤ n) = true := decide_eq_true (by omega)
      by_cases e2 : 7 < n
      · have g4 : decide (7 < n) = true := decide_eq_true e2
        have g5 : decide (n ≤ 7) = false := decide_eq_false (by omega)
        have g3 : decide (1 ≤ n ∧ n ≤ 7) = false := decide_eq_false (by omega)
        clear e1 e2
        clear hok
        go_wp2_with (first
          | (go_at_call 26; (with_reducible refine (zerosig_any _).mono ?_); rintro e w4 ⟨rfl, hb4⟩)
          | (go_at_call 27; (with_reducible refine (hN _).mono ?_); rintro e w5 ⟨rfl, rfl⟩))
        go_ret
        exact ⟨rfl, below_then (below_then HB3.out (below_one w3 _)) hb4⟩
      · have g4 : decide (7 < n) = false := decide_eq_false e2
        have g5 : decide (n ≤ 7) = true := decide_eq_true (by omega)
        have g3 : decide (1 ≤ n ∧ n ≤ 7) = true := decide_eq_true (by omega)
        by_cases e3 : fr < 0
        · have g6 : decide (fr < 0) = true := decide_eq_true e3
          clear e1 e2 e3
          clear hok
          go_wp2_with (first
            | (go_at_call 26; (with_reducible refine (zerosig_any _).mono ?_); rintro e w4 ⟨rfl, hb4⟩)
            | (go_at_call 27; (with_reducible refine (hN _).mono ?_); rintro e w5 ⟨rfl, rfl⟩))
          go_ret
          exact ⟨rfl, below_then (below_then HB3.out (below_one w3 _)) hb4⟩
        · have g6 : decide (fr < 0) = false := decide_eq_false e3
          have g7 : decide (n ≤ fr) = true := decide_eq_true (by omega)
          clear e1 e2 e3
          clear hok
          go_wp2_with (first
            | (go_at_call 26; (with_reducible refine (zerosig_any _).mono ?_); rintro e w4 ⟨rfl, hb4⟩)
            | (go_at_call 27; (with_reducible refine (hN _).mono ?_); rintro e w5 ⟨rfl, rfl⟩))
          go_ret
          exact ⟨rfl, below_then (below_then HB3.out (below_one w3 _)) hb4⟩

set_option maxHeartbeats 4000000 in
set_option maxRecDepth 100000 in
theorem ms_row (w : World) (seed : ByteArray) (hs : seed.size ≤ 140737488351232) (tx : ByteArray) (ht : tx.size ≤ 140737488351232) (l : List Int) (ds : Array Value) (h : (Rk.arr (Rk.int .i64) 2).K w l ds.toList) :
    Calls Try.prog 9 #[.string seed, .string tx, .agg ds] w fun e w' => e = .returned (.bool true) ∧ Below w.heap.size w w' := by
  obtain ⟨a, b, e1, -, -⟩ := Arr.two_ints h
  obtain rfl := Api.arr_of e1
  by_cases h1 : seed.size ≤ 60
  · by_cases h2 : tx.size ≤ 60
    · exact ms_few w seed tx h1 h2 a b
    · have d1 : decide ((60 : Int) < (seed.size : Int)) = false := decide_eq_false (by omega)
      have d2 : decide ((60 : Int) < (tx.size : Int)) = true := decide_eq_true (by omega)
      go_enter Try.func9, Try.ntmps9
      go_wp2_with (first
        | (go_at_call 20; (with_reducible refine (awake_any _).mono ?_); rintro e w1 ⟨rfl, hb1⟩; (first | (have B1 := Sd.mk (below_then B0.out hb1)) | have B0 := Sd.mk (below_then (below_one _ _) hb1)); clear hb1))
      go_ret
      exact ⟨rfl, B1.out⟩
  · have d1 : decide ((60 : Int) < (seed.size : Int)) = true := decide_eq_true (by omega)
    go_enter Try.func9, Try.ntmps9
    go_wp2_with (first
      | (go_at_call 20; (with_reducible refine (awake_any _).mono ?_); rintro e w1 ⟨rfl, hb1⟩; (first | (have B1 := Sd.mk (below_then B0.out hb1)) | have B0 := Sd.mk (below_then (below_one _ _) hb1)); clear hb1))
    go_ret
    exact ⟨rfl, B1.out⟩
end Go.Proofs.Ytmilnaiehebalaa.Mac
