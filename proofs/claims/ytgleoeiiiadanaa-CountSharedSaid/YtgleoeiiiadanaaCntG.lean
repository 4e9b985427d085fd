/- The reference's Top; CountLists: walked. -/
import Derived.Test.YtgleoeiiiadanaaCntE
import Derived.Test.YtgleoeiiiadanaaGatL
import Derived.BigQuiet
set_option linter.unusedVariables false
set_option linter.unusedSimpArgs false
namespace Go.Proofs.Ytgleoeiiiadanaa.Cnts
open Go.RowKit Rd Api _root_.Go.Proofs.Ytgleoeiiiadanaa.Own Mv Top Gat

theorem inn_le (v : Int) (l : List Int) : inn v l ≤ l.length := List.countP_le_length
theorem take_snoc {l : List Int} {j : Nat} {y : Int} (h : l[j]? = some y) : l.take (j + 1) = l.take j ++ [y] := by rw [List.take_add_one, h]; rfl
set_option maxRecDepth 100000 in
set_option maxHeartbeats 4000000 in
theorem reftop_any (w : World) (A : Option Addr) (c : Nat) (l : List Int) (hs : Sl (num .i64) w A c l) (len : Nat) (hlen : len = l.length) (h1000 : len ≤ 1000) (k : Nat) (hk : k ≤ 1000) (t : Int) (ht : IsTop l k t) :
    Calls Try.prog 14 #[.slice A len c, .int .i64 (k : Nat)] w fun e w' => e = .returned (.int .i64 t) ∧ Below w.heap.size w w' := by
  have HS := Sd.mk hs
  have HN := Sd.mk hlen
  have HT := Sd.mk ht
  have lc := Nat.le_trans hs.le hs.cap
  rw [← hlen] at lc
  clear hs hlen ht
  have H0 := Sd.mk (Below.refl w.heap.size w)
  go_enter Try.func14, Try.ntmps14
  go_wp2
  go_loopg [5, 6, 7, 8] len (fun gk v5 v6 v7 v8 wr => ∃ i, i + gk = len ∧ v5 = .int .i64 (i : Nat) ∧ Sd (∀ j, j < i → ∀ x, l[j]? = some x → ¬ (cnt (x + 1) l < k ∧ k ≤ cnt x l)) ∧ Sd (Below w.heap.size w wr))
  case atStart => exact ⟨0, by omega, rfl, ⟨fun j h => by omega⟩, H0⟩
  case round =>
    clear H0
    obtain ⟨i, hi, rfl, HX, HB⟩ := hrel
    by_cases hlt : i < len
    · have hii : (i : Int) < len := by omega
      have hil : i < l.length := by rw [← HN.out]; exact hlt
      obtain ⟨x, hx⟩ : ∃ x, l[i]'hil = x := ⟨_, rfl⟩
      obtain ⟨b, o, rfl, hc⟩ := num_at HS.out.row hil
      rw [hx] at hc
      have HXI := Sd.mk (show l[i]? = some x by rw [List.getElem?_eq_getElem hil, hx])
      have HC := Sd.mk hc
      clear hx hc hil
      obtain ⟨gko, hgo⟩ : ∃ z, gk = z := ⟨_, rfl⟩
      go_wp2
      go_loopg [6, 7, 8] len (fun gk v6 v7 v8 wr => ∃ j a e, j + gk = len ∧ a ≤ j ∧ e ≤ j ∧ v6 = .int .i64 (a : Nat) ∧ v7 = .int .i64 (e : Nat) ∧ v8 = .int .i64 (j : Nat) ∧ Sd (a = cnt (x + 1) (l.take j) ∧ e = inn x (l.take j)) ∧ Sd (Below w.heap.size w wr))
      case atStart => exact ⟨0, 0, 0, by omega, by omega, by omega, rfl, rfl, rfl, ⟨rfl, rfl⟩, HB⟩
      case round =>
        clear HB
        obtain ⟨j, a, e, hj, haj, hej, rfl, rfl, rfl, HAE, HB⟩ := hrel
        by_cases hlt2 : j < len
        · have hji : (j : Int) < len := by omega
          have hjl : j < l.length := by rw [← HN.out]; exact hlt2
          obtain ⟨y, hy⟩ : ∃ y, l[j]'hjl = y := ⟨_, rfl⟩
          obtain ⟨b', o', hA, hc⟩ := num_at HS.out.row hjl
          simp only [Option.some.injEq, Addr.mk.injEq] at hA
          obtain ⟨rfl, rfl, -⟩ := hA
          rw [hy] at hc
          have HYJ := Sd.mk (take_snoc (show l[j]? = some y by rw [List.getElem?_eq_getElem hjl, hy]))
          have c0 := cell_below HB.out hc
          have c1 := cell_below HB.out HC.out
          clear hy hjl hc
          go_upto_region 8 with (fail)
          go_quiet (fail)
          have HB2 := Sd.mk (below_drewN HB.out nq)
          have c0 := cell_below (below_drewN (Below.refl wr.heap.size wr) nq) c0
          have c1 := cell_below (below_drewN (Below.refl wr.heap.size wr) nq) c1
          generalize wr.drewN nq = W1 at HB2 c0 c1 ⊢
          clear HB
          by_cases hgt : x < y
          · have dg : decide (x < y) = true := decide_eq_true hgt
            have de : (y == x) = false := beq_eq_false_iff_ne.2 (by omega)
            have HAE2 := Sd.mk (show a + 1 = cnt (x + 1) (l.take (j + 1)) ∧ e = inn x (l.take (j + 1)) by
              rw [HYJ.out, cnt_snoc, inn_snoc, if_pos (by omega), if_neg (by omega), ← HAE.out.1, ← HAE.out.2]; exact ⟨rfl, rfl⟩)
            clear HAE
            go_upto_region 10 with (fail)
            go_quiet (fail)
            have HB3 := Sd.mk (below_drewN HB2.out nq)
            clear c0 c1
            go_wp2
            go_roundg (gk - 1)
            case measure => omega
            case rel => exact ⟨j + 1, a + 1, e, by omega, by omega, by omega, by go_num, rfl, by go_num, HAE2, HB3⟩
          · have dg : decide (x < y) = false := decide_eq_false hgt
            have hle : y ≤ x := by omega
            by_cases heq : y = x
            · subst heq
              have HAE2 := Sd.mk (show a = cnt (y + 1) (l.take (j + 1)) ∧ e + 1 = inn y (l.take (j + 1)) by
                rw [HYJ.out, cnt_snoc, inn_snoc, if_neg (by omega), if_pos rfl, ← HAE.out.1, ← HAE.out.2]; exact ⟨rfl, rfl⟩)
              clear HAE
              go_upto_region 10 with (fail)
              go_quiet (fail)
              have HB3 := Sd.mk (below_drewN HB2.out nq)
              clear c0 c1
              go_wp2
              go_roundg (gk - 1)
              case measure => omega
              case rel => exact ⟨j + 1, a, e + 1, by omega, by omega, by omega, rfl, by go_num, by go_num, HAE2, HB3⟩
            · have de : (y == x) = false := beq_eq_false_iff_ne.2 heq
              have HAE2 := Sd.mk (show a = cnt (x + 1) (l.take (j + 1)) ∧ e = inn x (l.take (j + 1)) by
                rw [HYJ.out, cnt_snoc, inn_snoc, if_neg (by omega), if_neg heq, ← HAE.out.1, ← HAE.out.2]; exact ⟨rfl, rfl⟩)
              clear HAE
              go_upto_region 10 with (fail)
              go_quiet (fail)
              have HB3 := Sd.mk (below_drewN HB2.out nq)
              clear c0 c1
              go_wp2
              go_roundg (gk - 1)
              case measure => omega
              case rel => exact ⟨j + 1, a, e, by omega, by omega, by omega, rfl, rfl, by go_num, HAE2, HB3⟩
        · have hji : decide (j < len) = false := decide_eq_false (by omega)
          have HE := Sd.mk (show a = cnt (x + 1) l ∧ a + e = cnt x l by
            have h := HAE.out
            rw [List.take_of_length_le (by rw [← HN.out]; omega)] at h
            have := inn_cnt x l
            exact ⟨h.1, by omega⟩)
          have c1 := cell_below HB.out HC.out
          by_cases h1 : a < k
          · have d1 : decide ((a : Int) < k) = true := decide_eq_true (by omega)
            have d1b : decide (a < k) = true := decide_eq_true h1
            by_cases h2 : k ≤ a + e
            · have d2 : decide ((k : Int) ≤ (a : Int) + e) = true := decide_eq_true (by omega)
              obtain rfl : x = t := top_found HT.out x (by rw [← HE.out.1]; exact h1) (by rw [← HE.out.2]; exact h2)
              go_wp2
              go_ret
              exact ⟨rfl, HB.out⟩
            · have d2 : decide ((k : Int) ≤ (a : Int) + e) = false := decide_eq_false (by omega)
              have HX2 := Sd.mk (show ∀ j, j < i + 1 → ∀ x, l[j]? = some x → ¬ (cnt (x + 1) l < k ∧ k ≤ cnt x l) from fun j' hj' z hz => by
                by_cases e' : j' = i
                · subst e'; rw [HXI.out] at hz; cases hz; rw [← HE.out.2]; intro h; exact h2 h.2
                · exact HX.out j' (by omega) z hz)
              clear h2 c1
              go_wp2
              go_roundg (gko - 1)
              case measure => omega
              case rel => exact ⟨i + 1, by omega, by go_num, HX2, HB⟩
          · have d1 : decide ((a : Int) < k) = false := decide_eq_false (by omega)
            have d1b : decide (a < k) = false := decide_eq_false h1
            have HX2 := Sd.mk (show ∀ j, j < i + 1 → ∀ x, l[j]? = some x → ¬ (cnt (x + 1) l < k ∧ k ≤ cnt x l) from fun j' hj' z hz => by
              by_cases e' : j' = i
              · subst e'; rw [HXI.out] at hz; cases hz; rw [← HE.out.1]; intro h; exact h1 h.1
              · exact HX.out j' (by omega) z hz)
            clear h1 c1
            go_wp2
            go_roundg (gko - 1)
            case measure => omega
            case rel => exact ⟨i + 1, by omega, by go_num, HX2, HB⟩
    · exfalso
      obtain ⟨q, hq, rfl⟩ := List.getElem_of_mem HT.out.1
      exact HX.out q (by rw [← HN.out] at hq; omega) _ (List.getElem?_eq_getElem hq) (top_has HT.out)
set_option maxHeartbeats 1000000 in
theorem awake_any (w : World) : Calls Try.prog 13 #[] w fun e w' => e = .returned (.bool true) ∧ w' = w := by
  have hq := fun W => quorum_any W 4 (by omega) (by omega) 3 (by rfl)
  have hw := fun W => weak_any W 4 (by omega) (by omega) 2 (by rfl)
  go_enter Try.func13, Try.ntmps13
  go_wp2_with (first
    | (go_at_call 20; (refine (hq _).mono ?_); rintro e w1 ⟨rfl, rfl⟩)
    | (go_at_call 49; (refine (hw _).mono ?_); rintro e w1 ⟨rfl, rfl⟩))
  go_ret
  exact ⟨rfl, rfl⟩
theorem row_num {w : World} {A : Option Addr} {l : List Int} (h : Row (Rk.int .i64) w A l) : Row (num .i64) w A l ∧ ∀ x ∈ l, wfI x := by
  refine ⟨fun i x hx => ?_, fun x hx => ?_⟩
  · obtain ⟨b, o, cs, hA, ⟨rfl, h1⟩, hc⟩ := h i x hx
    exact ⟨b, o, _, hA, rfl, hc⟩
  · obtain ⟨i, hi, rfl⟩ := List.getElem_of_mem hx
    obtain ⟨b, o, cs, hA, ⟨rfl, h1⟩, hc⟩ := h i _ (List.getElem?_eq_getElem hi)
    exact h1
set_option maxHeartbeats 4000000 in
set_option maxRecDepth 100000 in
theorem lists_row (w : World) (A : Option Addr) (c : Nat) (l : List Int) (h1 : l.length ≤ c) (h2 : c ≤ maxLen) (h3 : Row (Rk.int .i64) w A l) (n : Int) (hn : (Lit.int .i64 n).wf = true) (k : Int) (hk : (Lit.int .i64 k).wf = true) :
    Calls Try.prog 3 #[.slice A l.length c, .int .i64 n, .int .i64 k] w fun e w' => e = .returned (.bool true) ∧ Below w.heap.size w w' := by
  have HS := Sd.mk (⟨h1, by unfold maxLen at h2; omega, (row_num h3).1⟩ : Sl (num .i64) w A c l)
  have HW := Sd.mk (row_num h3).2
  have H0 := Sd.mk (Below.refl w.heap.size w)
  have HWN := Sd.mk (show wfI n from hn)
  have lc := Nat.le_trans HS.out.le HS.out.cap
  obtain ⟨len, hlen⟩ : ∃ k, k = l.length := ⟨_, rfl⟩
  have HN := Sd.mk hlen
  rw [← hlen] at lc ⊢
  have hk1 := (i64_of hk).1
  have hk2 := (i64_of hk).2
  clear h1 h2 h3 hlen hn hk
  by_cases h100 : 100 < len
  · have d0 : decide (100 < (len : Int)) = true := decide_eq_true (by omega)
    have d0b : decide (100 < len) = true := decide_eq_true h100
    go_enter Try.func3, Try.ntmps3
    go_wp2_with (first
      | (go_at_call 13; (with_reducible refine (awake_any _).mono ?_); rintro e wa ⟨rfl, rfl⟩))
    go_ret
    exact ⟨rfl, H0.out⟩
  · have d0 : decide (100 < (len : Int)) = false := decide_eq_false (by omega)
    have d0b : decide (100 < len) = false := decide_eq_false h100
    obtain ⟨m, hm⟩ : ∃ m, (onceF l n).length = m := ⟨_, rfl⟩
    have HM := Sd.mk hm
    have hml : m ≤ 100 := by have := (onceF_ok l n).2.2; rw [hm, ← HN.out] at this; omega
    have HO := Sd.mk (fun W (hb : Below w.heap.size w W) => (show Calls Try.prog 16 #[.slice A len c, .int .i64 n] W fun e w' => ∃ B d, e = .returned (.slice B m d) ∧ Below w.heap.size w w' from
      (refonce_any W A c l (HS.out.below hb) len HN.out (by omega) n).mono fun e w' ⟨v, he, ho⟩ => by
        obtain ⟨B, d, hv, -⟩ := own_num ho.own
        exact ⟨B, d, by rw [he, hv, hm], below_then hb ho.bel⟩))
    have HDI := Sd.mk (fun W (hb : Below w.heap.size w W) => distinct_any W A c l (HS.out.below hb) HW.out len HN.out (by omega) n HWN.out m HM.out)
    clear hm
    by_cases hr : 1 ≤ k ∧ k ≤ (len : Int)
    · obtain ⟨k', rfl⟩ : ∃ k' : Nat, k = (k' : Int) := ⟨k.toNat, by omega⟩
      have k1 : 1 ≤ k' := by omega
      have k2 : k' ≤ len := by omega
      obtain ⟨t, ht⟩ := isTop_ex (l := l) k1 (by rw [← HN.out]; exact k2)
      have HT := Sd.mk ht
      have d1 : decide ((1 : Int) ≤ k') = true := decide_eq_true (by omega)
      have d1b : decide (1 ≤ k') = true := decide_eq_true k1
      have d2 : decide ((k' : Int) ≤ len) = true := decide_eq_true (by omega)
      have d2b : decide (k' ≤ len) = true := decide_eq_true k2
      clear ht hr
      go_enter Try.func3, Try.ntmps3
      go_wp2_with (first
        | (go_at_call 13; (with_reducible refine (awake_any _).mono ?_); rintro e wa ⟨rfl, rfl⟩)
        | (go_at_call 14; (with_reducible refine (reftop_any _ A c l (HS.out.below H0.out) len HN.out (by omega) k' (by omega) t HT.out).mono ?_); rintro e w1 ⟨rfl, hb⟩; have H1 := Sd.mk (below_then H0.out hb); clear hb)
        | (go_at_call 15; (with_reducible refine (HDI.out _ H1.out).mono ?_); rintro e w2 ⟨rfl, hb⟩; have H2 := Sd.mk (below_then H1.out hb); clear hb)
        | (go_at_call 16; (with_reducible refine (HO.out _ H2.out).mono ?_); rintro e w3 ⟨B, d, rfl, hb⟩; have H3 := Sd.mk hb; clear hb)
        | (go_at_call 17; (with_reducible refine (top_any _ A c l (HS.out.below H3.out) (by rw [← HN.out]; omega) len k' HN.out.symm k1 k2 t HT.out).mono ?_); rintro e w4 ⟨rfl, hb⟩; have H4 := Sd.mk (below_then H3.out hb); clear hb))
      go_ret
      exact ⟨rfl, H4.out⟩
    · by_cases hk1' : 1 ≤ k
      · have d1 : decide (1 ≤ k) = true := decide_eq_true hk1'
        have d2 : decide (k ≤ (len : Int)) = false := decide_eq_false (fun h => hr ⟨hk1', h⟩)
        have HK := Sd.mk (show k < 1 ∨ (len : Int) < k by omega)
        clear hr
        go_enter Try.func3, Try.ntmps3
        go_wp2_with (first
          | (go_at_call 13; (with_reducible refine (awake_any _).mono ?_); rintro e wa ⟨rfl, rfl⟩)
          | (go_at_call 15; (with_reducible refine (HDI.out _ H0.out).mono ?_); rintro e w2 ⟨rfl, hb⟩; have H2 := Sd.mk (below_then H0.out hb); clear hb)
          | (go_at_call 16; (with_reducible refine (HO.out _ H2.out).mono ?_); rintro e w3 ⟨B, d, rfl, hb⟩; have H3 := Sd.mk hb; clear hb)
          | (go_at_call 17; (with_reducible refine (top_none _ A c len (by omega) k HK.out).mono ?_); rintro e w4 ⟨rfl, rfl⟩))
        go_ret
        exact ⟨rfl, H3.out⟩
      · have d1 : decide (1 ≤ k) = false := decide_eq_false hk1'
        have HK := Sd.mk (show k < 1 ∨ (len : Int) < k by omega)
        clear hr
        go_enter Try.func3, Try.ntmps3
        go_wp2_with (first
          | (go_at_call 13; (with_reducible refine (awake_any _).mono ?_); rintro e wa ⟨rfl, rfl⟩)
          | (go_at_call 15; (with_reducible refine (HDI.out _ H0.out).mono ?_); rintro e w2 ⟨rfl, hb⟩; have H2 := Sd.mk (below_then H0.out hb); clear hb)
          | (go_at_call 16; (with_reducible refine (HO.out _ H2.out).mono ?_); rintro e w3 ⟨B, d, rfl, hb⟩; have H3 := Sd.mk hb; clear hb)
          | (go_at_call 17; (with_reducible refine (top_none _ A c len (by omega) k HK.out).mono ?_); rintro e w4 ⟨rfl, rfl⟩))
        go_ret
        exact ⟨rfl, H3.out⟩
end Go.Proofs.Ytgleoeiiiadanaa.Cnts
