/- RuleBytes, walked: for all states, and strings. -/
import Derived.Test.YtjpjphdcpdjlkaaReadS
set_option linter.unusedVariables false
set_option linter.unusedSimpArgs false
namespace Go.Proofs.Ytjpjphdcpdjlkaa.Rule
open Go.RowKit Rd Api Own Mv Num

theorem bytes_is (w : World) (sv sl : Int) (t : ByteArray) (ht : num4 sv ++ num4 sl = t) : Calls Try.prog 38 #[.agg #[.int .i64 sv, .int .i64 sl]] w fun e w' => e = .returned (.string t) ∧ Below w.heap.size w w' := by
  subst ht
  exact bytes_any w sv sl
theorem ref_bytes_is (w : World) (sv sl : Int) (t : ByteArray) (ht : num4 sv ++ num4 sl = t) : Calls Try.prog 40 #[.agg #[.int .i64 sv, .int .i64 sl]] w fun e w' => e = .returned (.string t) ∧ Below w.heap.size w w' := by
  subst ht
  exact ref_bytes_any w sv sl
/-! ### the plain law -/
theorem byte_of {n : Nat} (h : n < 256) : (UInt8.ofNat n).toNat = n := by simp; omega
theorem val4 (a b c d : UInt8) : beVal [a, b, c, d] = (((a.toNat : Int) * 256 + b.toNat) * 256 + c.toNat) * 256 + d.toNat := by
  simp [beVal]
theorem four_list (m : Int) : (four m).data.toList = [UInt8.ofNat (m / 16777216).toNat, UInt8.ofNat (m / 65536 % 256).toNat, UInt8.ofNat (m / 256 % 256).toNat, UInt8.ofNat (m % 256).toNat] := rfl
theorem four_val (m : Int) (h0 : 0 ≤ m) (h1 : m ≤ 2147483647) : beVal (four m).data.toList = m := by
  rw [four_list, val4, byte_of (by omega), byte_of (by omega), byte_of (by omega), byte_of (by omega)]
  omega
theorem ofNat_toNat (a : UInt8) : UInt8.ofNat a.toNat = a := by simp
theorem val_four (a b c d : UInt8) (h : beVal [a, b, c, d] ≤ 2147483647) : (four (beVal [a, b, c, d])).data.toList = [a, b, c, d] := by
  have ha := a.toNat_lt
  have hb := b.toNat_lt
  have hc := c.toNat_lt
  have hd := d.toNat_lt
  rw [val4] at h
  rw [four_list, val4]
  have e0 : ((((a.toNat : Int) * 256 + b.toNat) * 256 + c.toNat) * 256 + d.toNat) / 16777216 = a.toNat := by omega
  have e1 : ((((a.toNat : Int) * 256 + b.toNat) * 256 + c.toNat) * 256 + d.toNat) / 65536 % 256 = b.toNat := by omega
  have e2 : ((((a.toNat : Int) * 256 + b.toNat) * 256 + c.toNat) * 256 + d.toNat) / 256 % 256 = c.toNat := by omega
  have e3 : ((((a.toNat : Int) * 256 + b.toNat) * 256 + c.toNat) * 256 + d.toNat) % 256 = d.toNat := by omega
  rw [e0, e1, e2, e3]
  simp
theorem clamp_in {n : Int} (h0 : 0 ≤ n) (h1 : n ≤ 2147483647) : clamp n = n := by unfold clamp; rw [if_neg (by omega)]
theorem bytes_ext {s t : ByteArray} (h : s.data.toList = t.data.toList) : s = t := by
  cases s; cases t; simp at h; rw [h]
theorem cat_list (s t : ByteArray) : (s ++ t).data.toList = s.data.toList ++ t.data.toList := by
  simp [ByteArray.toList_data_append]
theorem cut_list (s : ByteArray) (i j : Nat) : (s.extract i j).data.toList = (s.data.toList.take j).drop i := by
  rw [ByteArray.data_extract]
  simp [List.drop_take]

theorem hd_cat (a b : Int) : hd4 (num4 a ++ num4 b) = beVal (num4 a).data.toList := by
  unfold hd4
  rw [cut_list, cat_list]
  rfl
theorem tl_cat (a b : Int) : tl4 (num4 a ++ num4 b) = beVal (num4 b).data.toList := by
  unfold tl4
  rw [cut_list, cat_list]
  rfl
theorem read_made {a b : Int} (h : 0 ≤ a ∧ a ≤ 1000000 ∧ 0 ≤ b ∧ b ≤ 1000000) : readF (num4 a ++ num4 b) = (a, b, 0) := by
  have h1 : hd4 (num4 a ++ num4 b) = a := by rw [hd_cat]; unfold num4; rw [clamp_in (by omega) (by omega), four_val _ (by omega) (by omega)]
  have h2 : tl4 (num4 a ++ num4 b) = b := by rw [tl_cat]; unfold num4; rw [clamp_in (by omega) (by omega), four_val _ (by omega) (by omega)]
  unfold readF
  rw [h1, h2, if_pos ⟨rfl, by omega, by omega⟩]
theorem list8 {l : List UInt8} (h : l.length = 8) : ∃ a b c d e f g k, l = [a, b, c, d, e, f, g, k] := by
  match l, h with
  | [a, b, c, d, e, f, g, k], _ => exact ⟨a, b, c, d, e, f, g, k, rfl⟩
theorem made_read {b : ByteArray} (h : (readF b).2.2 ≠ 2) : (readF b).2.2 = 0 ∧ num4 (readF b).1 ++ num4 (readF b).2.1 = b ∧ (readF b).1 ≤ 1000000 ∧ (readF b).2.1 ≤ 1000000 := by
  unfold readF at h ⊢
  by_cases k : b.size = 8 ∧ hd4 b ≤ 1000000 ∧ tl4 b ≤ 1000000
  · rw [if_pos k] at h ⊢
    obtain ⟨k0, k1, k2⟩ := k
    refine ⟨rfl, ?_, k1, k2⟩
    obtain ⟨x0, x1, x2, x3, x4, x5, x6, x7, e⟩ := list8 (show b.data.toList.length = 8 by rw [Array.length_toList]; exact k0)
    have e1 : hd4 b = beVal [x0, x1, x2, x3] := by unfold hd4; rw [cut_list, e]; rfl
    have e2 : tl4 b = beVal [x4, x5, x6, x7] := by unfold tl4; rw [cut_list, e]; rfl
    have n1 : 0 ≤ beVal [x0, x1, x2, x3] := by rw [val4]; omega
    have n2 : 0 ≤ beVal [x4, x5, x6, x7] := by rw [val4]; omega
    refine bytes_ext ?_
    show (num4 (hd4 b) ++ num4 (tl4 b)).data.toList = b.data.toList
    rw [cat_list, e, e1, e2]
    rw [e1] at k1
    rw [e2] at k2
    unfold num4
    rw [clamp_in n1 (by omega), clamp_in n2 (by omega), val_four _ _ _ _ (by omega), val_four _ _ _ _ (by omega)]
    rfl
  · rw [if_neg k] at h
    exact absurd rfl h
theorem read_err (b : ByteArray) : (readF b).2.2 = 2 → readF b = (0, 0, 2) := by
  unfold readF
  split
  · intro h
    exact absurd h (by simp)
  · intro _
    rfl

set_option maxHeartbeats 8000000 in
set_option maxRecDepth 100000 in
theorem bytes_few (w : World) (sv sl : Int) (b : ByteArray) (hm : b.size ≤ 20) :
    Calls Try.prog 11 #[.agg #[.int .i64 sv, .int .i64 sl], .string b] w fun e w' => e = .returned (.bool true) ∧ Below w.heap.size w w' := by
  have h20 : decide (20 < (b.size : Int)) = false := decide_eq_false (by omega)
  have X2 := Sd.mk (blk_new w (.cells #[.int .i64 sv, .int .i64 sl] 26))
  have HB := Sd.mk (below_one w (.cells #[.int .i64 sv, .int .i64 sl] 26))
  obtain ⟨t, ht⟩ : ∃ t, num4 sv ++ num4 sl = t := ⟨_, rfl⟩
  have hts : t.size = 8 := by rw [← ht]; rfl
  obtain ⟨x, hx⟩ : ∃ x, readF t = x := ⟨_, rfl⟩
  obtain ⟨y, hy⟩ : ∃ y, readF b = y := ⟨_, rfl⟩
  have HTX := Sd.mk hx
  have HTY := Sd.mk hy
  have HT := Sd.mk ht
  clear ht hx hy
  go_enter Try.func11, Try.ntmps11
  go_upto_region 6 with (first | (go_at_call 22; (with_reducible refine (awake_any _).mono ?_); rintro e w' ⟨rfl, hb⟩; have n2 := Sd.mk (blk_keep X2.out hb); have nB := Sd.mk (below_then HB.out hb); clear X2 HB hb; have X2 := n2; have HB := nB; clear n2 nB; have c20 := blk_at X2.out 0 _ rfl; have c21 := blk_at X2.out 1 _ rfl; have o20 := fun o => blk_at (blk_keep X2.out (below_one _ o)) 0 _ rfl; have o21 := fun o => blk_at (blk_keep X2.out (below_one _ o)) 1 _ rfl) | (go_at_call 38; (with_reducible refine (bytes_is _ sv sl t HT.out).mono ?_); rintro e w' ⟨rfl, hb⟩; have n2 := Sd.mk (blk_keep X2.out hb); have nB := Sd.mk (below_then HB.out hb); clear X2 HB hb; have X2 := n2; have HB := nB; clear n2 nB; have c20 := blk_at X2.out 0 _ rfl; have c21 := blk_at X2.out 1 _ rfl; have o20 := fun o => blk_at (blk_keep X2.out (below_one _ o)) 0 _ rfl; have o21 := fun o => blk_at (blk_keep X2.out (below_one _ o)) 1 _ rfl) | (go_at_call 39; (with_reducible refine (read_any _ t (by omega) x HTX.out).mono ?_); rintro e w' ⟨rfl, hb⟩; have n2 := Sd.mk (blk_keep X2.out hb); have nB := Sd.mk (below_then HB.out hb); clear X2 HB hb; have X2 := n2; have HB := nB; clear n2 nB; have c20 := blk_at X2.out 0 _ rfl; have c21 := blk_at X2.out 1 _ rfl; have o20 := fun o => blk_at (blk_keep X2.out (below_one _ o)) 0 _ rfl; have o21 := fun o => blk_at (blk_keep X2.out (below_one _ o)) 1 _ rfl) | (go_at_call 39; (with_reducible refine (read_any _ b (by omega) y HTY.out).mono ?_); rintro e w' ⟨rfl, hb⟩; have n2 := Sd.mk (blk_keep (blk_keep X2.out (below_one _ _)) hb); have nB := Sd.mk (below_then (below_then HB.out (below_one _ _)) hb); clear X2 HB; have X2 := n2; have HB := nB; clear n2 nB; have c20 := blk_at X2.out 0 _ rfl; have c21 := blk_at X2.out 1 _ rfl; have o20 := fun o => blk_at (blk_keep X2.out (below_one _ o)) 0 _ rfl; have o21 := fun o => blk_at (blk_keep X2.out (below_one _ o)) 1 _ rfl; have X6 := Sd.mk (blk_keep (blk_new _ _) hb); clear hb; have c60 := blk_at X6.out 0 _ rfl; have c61 := blk_at X6.out 1 _ rfl; have o60 := fun o => blk_at (blk_keep X6.out (below_one _ o)) 0 _ rfl; have o61 := fun o => blk_at (blk_keep X6.out (below_one _ o)) 1 _ rfl))
  have n2 := Sd.mk (blk_keep X2.out (below_one _ (.cells #[.int .i64 y.1, .int .i64 y.2.1] 26)))
  have n6 := Sd.mk (blk_keep X6.out (below_one _ (.cells #[.int .i64 y.1, .int .i64 y.2.1] 26)))
  have X8 := Sd.mk (blk_new w' (.cells #[.int .i64 y.1, .int .i64 y.2.1] 26))
  have nB := Sd.mk (below_then HB.out (below_one _ (.cells #[.int .i64 y.1, .int .i64 y.2.1] 26)))
  clear X2 X6 HB c20 c21 o20 o21 c60 c61 o60 o61
  have X2 := n2
  have X6 := n6
  have HB := nB
  clear n2 n6 nB
  generalize hw8 : w'.alloc (.cells #[.int .i64 y.1, .int .i64 y.2.1] 26) = w8 at X2 X6 X8 HB ⊢
  generalize hh8 : w'.heap.size = h8 at X8 ⊢
  clear hw8 hh8
  have HU := Sd.mk (read_err b)
  have HM := Sd.mk (@made_read b)
  have hgood : (0 ≤ sv ∧ sv ≤ 1000000 ∧ 0 ≤ sl ∧ sl ≤ 1000000 ∧ x = (sv, sl, 0)) ∨ ¬ (0 ≤ sv ∧ sv ≤ 1000000 ∧ 0 ≤ sl ∧ sl ≤ 1000000) := by
    by_cases g : 0 ≤ sv ∧ sv ≤ 1000000 ∧ 0 ≤ sl ∧ sl ≤ 1000000
    · exact .inl ⟨g.1, g.2.1, g.2.2.1, g.2.2.2, by rw [← HTX.out, ← HT.out, read_made g]⟩
    · exact .inr g
  have hy2 : y = (0, 0, 2) ∨ (y.2.2 = 0 ∧ num4 y.1 ++ num4 y.2.1 = b ∧ y.1 ≤ 1000000 ∧ y.2.1 ≤ 1000000) := by
    by_cases g : (readF b).2.2 = 2
    · exact .inl (by rw [← HTY.out]; exact read_err b g)
    · exact .inr (by rw [← HTY.out]; exact made_read g)
  clear HTX HTY HU HM
  obtain ⟨x0, x1, x2⟩ := x
  obtain ⟨y0, y1, y2⟩ := y
  simp only at X6 X8 hy2 ⊢
  have HG := Sd.mk hgood
  have HY := Sd.mk hy2
  clear hgood hy2
  rcases HY.out with hye | ⟨rfl, hye, hy1, hy2⟩
  · simp only [Prod.mk.injEq] at hye
    obtain ⟨rfl, rfl, rfl⟩ := hye
    clear HY
    rcases HG.out with ⟨g0, g1, g2, g3, ge⟩ | hg
    · simp only [Prod.mk.injEq] at ge
      obtain ⟨rfl, rfl, rfl⟩ := ge
      clear HG
      have c20 := blk_at X2.out 0 _ rfl; have c21 := blk_at X2.out 1 _ rfl; have c60 := blk_at X6.out 0 _ rfl; have c61 := blk_at X6.out 1 _ rfl; have c80 := blk_at X8.out 0 _ rfl; have c81 := blk_at X8.out 1 _ rfl
      go_wp2_with (first | (go_at_call 40; (with_reducible refine (ref_bytes_is _ _ _ t HT.out).mono ?_); rintro e w' ⟨rfl, hb⟩; have n2 := Sd.mk (blk_keep X2.out hb); have n6 := Sd.mk (blk_keep X6.out hb); have n8 := Sd.mk (blk_keep X8.out hb); have nB := Sd.mk (below_then HB.out hb); clear X2 X6 X8 HB hb; have X2 := n2; have X6 := n6; have X8 := n8; have HB := nB; clear n2 n6 n8 nB; have c20 := blk_at X2.out 0 _ rfl; have c21 := blk_at X2.out 1 _ rfl; have c60 := blk_at X6.out 0 _ rfl; have c61 := blk_at X6.out 1 _ rfl; have c80 := blk_at X8.out 0 _ rfl; have c81 := blk_at X8.out 1 _ rfl))
      go_ret
      exact ⟨rfl, HB.out⟩
    · clear HG
      have HG := Sd.mk hg
      clear hg
      have c20 := blk_at X2.out 0 _ rfl; have c21 := blk_at X2.out 1 _ rfl; have c60 := blk_at X6.out 0 _ rfl; have c61 := blk_at X6.out 1 _ rfl; have c80 := blk_at X8.out 0 _ rfl; have c81 := blk_at X8.out 1 _ rfl
      go_wp2_with (first | (go_at_call 40; (with_reducible refine (ref_bytes_is _ _ _ t HT.out).mono ?_); rintro e w' ⟨rfl, hb⟩; have n2 := Sd.mk (blk_keep X2.out hb); have n6 := Sd.mk (blk_keep X6.out hb); have n8 := Sd.mk (blk_keep X8.out hb); have nB := Sd.mk (below_then HB.out hb); clear X2 X6 X8 HB hb; have X2 := n2; have X6 := n6; have X8 := n8; have HB := nB; clear n2 n6 n8 nB; have c20 := blk_at X2.out 0 _ rfl; have c21 := blk_at X2.out 1 _ rfl; have c60 := blk_at X6.out 0 _ rfl; have c61 := blk_at X6.out 1 _ rfl; have c80 := blk_at X8.out 0 _ rfl; have c81 := blk_at X8.out 1 _ rfl))
      all_goals first
        | (go_ret; exact ⟨rfl, HB.out⟩)
        | (exfalso; have := HG.out; omega)
  · have HE := Sd.mk hye
    clear hye HY
    rcases HG.out with ⟨g0, g1, g2, g3, ge⟩ | hg
    · simp only [Prod.mk.injEq] at ge
      obtain ⟨rfl, rfl, rfl⟩ := ge
      clear HG
      have c20 := blk_at X2.out 0 _ rfl; have c21 := blk_at X2.out 1 _ rfl; have c60 := blk_at X6.out 0 _ rfl; have c61 := blk_at X6.out 1 _ rfl; have c80 := blk_at X8.out 0 _ rfl; have c81 := blk_at X8.out 1 _ rfl
      go_wp2_with (first | (go_at_call 40; (with_reducible refine (ref_bytes_is _ _ _ t HT.out).mono ?_); rintro e w' ⟨rfl, hb⟩; have n2 := Sd.mk (blk_keep X2.out hb); have n6 := Sd.mk (blk_keep X6.out hb); have n8 := Sd.mk (blk_keep X8.out hb); have nB := Sd.mk (below_then HB.out hb); clear X2 X6 X8 HB hb; have X2 := n2; have X6 := n6; have X8 := n8; have HB := nB; clear n2 n6 n8 nB; have c20 := blk_at X2.out 0 _ rfl; have c21 := blk_at X2.out 1 _ rfl; have c60 := blk_at X6.out 0 _ rfl; have c61 := blk_at X6.out 1 _ rfl; have c80 := blk_at X8.out 0 _ rfl; have c81 := blk_at X8.out 1 _ rfl) | (go_at_call 40; (with_reducible refine (ref_bytes_is _ y0 y1 b HE.out).mono ?_); rintro e w' ⟨rfl, hb⟩; have n2 := Sd.mk (blk_keep X2.out hb); have n6 := Sd.mk (blk_keep X6.out hb); have n8 := Sd.mk (blk_keep X8.out hb); have nB := Sd.mk (below_then HB.out hb); clear X2 X6 X8 HB hb; have X2 := n2; have X6 := n6; have X8 := n8; have HB := nB; clear n2 n6 n8 nB; have c20 := blk_at X2.out 0 _ rfl; have c21 := blk_at X2.out 1 _ rfl; have c60 := blk_at X6.out 0 _ rfl; have c61 := blk_at X6.out 1 _ rfl; have c80 := blk_at X8.out 0 _ rfl; have c81 := blk_at X8.out 1 _ rfl))
      go_ret
      exact ⟨rfl, HB.out⟩
    · clear HG
      have HG := Sd.mk hg
      clear hg
      have c20 := blk_at X2.out 0 _ rfl; have c21 := blk_at X2.out 1 _ rfl; have c60 := blk_at X6.out 0 _ rfl; have c61 := blk_at X6.out 1 _ rfl; have c80 := blk_at X8.out 0 _ rfl; have c81 := blk_at X8.out 1 _ rfl
      go_wp2_with (first | (go_at_call 40; (with_reducible refine (ref_bytes_is _ _ _ t HT.out).mono ?_); rintro e w' ⟨rfl, hb⟩; have n2 := Sd.mk (blk_keep X2.out hb); have n6 := Sd.mk (blk_keep X6.out hb); have n8 := Sd.mk (blk_keep X8.out hb); have nB := Sd.mk (below_then HB.out hb); clear X2 X6 X8 HB hb; have X2 := n2; have X6 := n6; have X8 := n8; have HB := nB; clear n2 n6 n8 nB; have c20 := blk_at X2.out 0 _ rfl; have c21 := blk_at X2.out 1 _ rfl; have c60 := blk_at X6.out 0 _ rfl; have c61 := blk_at X6.out 1 _ rfl; have c80 := blk_at X8.out 0 _ rfl; have c81 := blk_at X8.out 1 _ rfl) | (go_at_call 40; (with_reducible refine (ref_bytes_is _ y0 y1 b HE.out).mono ?_); rintro e w' ⟨rfl, hb⟩; have n2 := Sd.mk (blk_keep X2.out hb); have n6 := Sd.mk (blk_keep X6.out hb); have n8 := Sd.mk (blk_keep X8.out hb); have nB := Sd.mk (below_then HB.out hb); clear X2 X6 X8 HB hb; have X2 := n2; have X6 := n6; have X8 := n8; have HB := nB; clear n2 n6 n8 nB; have c20 := blk_at X2.out 0 _ rfl; have c21 := blk_at X2.out 1 _ rfl; have c60 := blk_at X6.out 0 _ rfl; have c61 := blk_at X6.out 1 _ rfl; have c80 := blk_at X8.out 0 _ rfl; have c81 := blk_at X8.out 1 _ rfl))
      all_goals first
        | (go_ret; exact ⟨rfl, HB.out⟩)
        | (exfalso; have := HG.out; omega)

set_option maxHeartbeats 8000000 in
set_option maxRecDepth 100000 in
theorem bytes_row (w : World) (s : Int × Int × Unit) (cs : Array Value) (hs : stK.K w s cs.toList) (b : ByteArray) (hb : b.size ≤ 140737488351232) :
    Calls Try.prog 11 #[.agg cs, .string b] w fun e w' => e = .returned (.bool true) ∧ Below w.heap.size w w' := by
  obtain ⟨e1, -⟩ := st_open hs
  obtain rfl := arr_of e1
  by_cases hn : b.size ≤ 20
  · exact bytes_few w s.1 s.2.1 b hn
  · have h20 : decide (20 < (b.size : Int)) = true := decide_eq_true (by omega)
    have HB := Sd.mk (below_one w (.cells #[.int .i64 s.1, .int .i64 s.2.1] 26))
    clear hn hs e1
    go_enter Try.func11, Try.ntmps11
    go_wp2_with (first | (go_at_call 22; (with_reducible refine (awake_any _).mono ?_); rintro e w' ⟨rfl, hb⟩; have nB := Sd.mk (below_then HB.out hb); clear HB hb; have HB := nB; clear nB))
    go_ret
    exact ⟨rfl, HB.out⟩
end Go.Proofs.Ytjpjphdcpdjlkaa.Rule
