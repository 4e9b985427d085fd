/- GatherReady: walked. -/
import Derived.Test.YtgleoeiiiadanaaGatL
import Derived.Test.YtgleoeiiiadanaaArr
set_option linter.unusedVariables false
set_option linter.unusedSimpArgs false
namespace Go.Proofs.Ytgleoeiiiadanaa.Gat
open Go.RowKit Rd Api _root_.Go.Proofs.Ytgleoeiiiadanaa.Own Mv Top

theorem fl_two {n : Nat} (h : 1 ≤ n) : n < 2 * (n - fl n) ∧ fl n + 1 ≤ n - fl n := by unfold fl; omega
theorem ready_top {vs : List Int} {n : Nat} {a t : Int} (hn : 1 ≤ n) (h : n - fl n ≤ inn a vs) (ht : IsTop vs (fl n + 1) t) : a ≤ t := by
  refine (ht.2 a).2 ?_
  have := inn_cnt a vs
  have := (fl_two hn).2
  omega
theorem ready_one {vs : List Int} {n : Nat} {a b : Int} (hn : 1 ≤ n) (hl : vs.length = n) (hab : a ≠ b) (h : n - fl n ≤ inn a vs) : ¬ n - fl n ≤ inn b vs := by
  have := inn_two hab vs
  have := (fl_two hn).1
  omega
-- <L1
set_option maxHeartbeats 8000000 in
set_option maxRecDepth 100000 in
theorem ready_few (w : World) (a0 : Nat) (bu : a0 ≤ 255) (A : Option Addr) (c : Nat) (l : List Tel) (HO : Sd (Ops w A c l)) (len : Nat) (HN : Sd (len = l.length)) (lc : len ≤ 9223372036854775807) (h60 : len ≤ 60) (a b2 : Int) :
    Calls Try.prog 5 #[.int .u8 (a0 : Int), .slice A len c, .agg #[.int .i64 a, .int .i64 b2]] w fun e w' => e = .returned (.bool true) ∧ Below w.heap.size w w' := by
  have h60' : decide ((60 : Int) < (len : Int)) = false := decide_eq_false (by omega)
  have h60'' : decide (60 < len) = false := decide_eq_false (by omega)
  obtain ⟨r0, hr0⟩ : ∃ z, z = a0 % 7 := ⟨_, rfl⟩
  obtain ⟨n, hn⟩ : ∃ n, n = r0 + 1 := ⟨_, rfl⟩
  have n1 : 1 ≤ n := by omega
  have n7 : n ≤ 7 := by omega
  have p0 : ((a0 : Int)).tmod 7 = (r0 : Int) := by rw [Int.tmod_eq_emod_of_nonneg (by omega)]; omega
  have p0b : ((a0 : Int)) % 7 = (r0 : Int) := by omega
  have p1 : IntKind.i64.wrap (r0 : Int) = (r0 : Int) := by rw [IntKind.wrap_i64]; omega
  have p2 : IntKind.i64.wrap (1 + (r0 : Int)) = (n : Int) := by rw [IntKind.wrap_i64]; omega
  have p3 : 1 + (r0 : Int) = (n : Int) := by omega
  have hmm : min (max (n : Int) 1) 7 = (n : Int) := by omega
  have HM := Sd.mk hmm
  clear hr0 hn hmm bu
  go_enter Try.func5, Try.ntmps5
  go_upto_region 1 with (fail)
  have X0 := blk_new w (.cells #[.int .i64 a, .int .i64 b2] 32)
  have B0 := below_one w (.cells #[.int .i64 a, .int .i64 b2] 32)
  generalize w.alloc _ = W0 at X0 B0 ⊢
  have y0 := blk_at X0 0 _ rfl
  have y1 := blk_at X0 1 _ rfl
  have HB0 := Sd.mk B0
  clear X0 B0
  go_quiet (fail)
  have HB00 := Sd.mk (below_drewN HB0.out nq)
  clear HB0 y0 y1
  generalize W0.drewN nq = W00 at HB00 ⊢
  go_wp2_with (first
    | (go_at_call 22; (with_reducible refine (awake_any _).mono ?_); rintro e wa ⟨rfl, hba⟩; have HA := Sd.mk (below_then HB00.out hba); clear hba HB00)
    | (go_at_call 23; (with_reducible refine (new_any _ (n : Int) n HM.out).mono ?_); rintro e w1 ⟨g, b, rfl, hg, hb, hG, hB⟩; have HG := Sd.mk hG; have HB := Sd.mk (below_then HA.out hB); have hbb := Nat.le_trans HA.out.size hb; clear hG hB hg hb HA))
  clear p0 p0b p1 p2 p3
  go_loopg [10] len (fun gk v10 wr => ∃ i vs, i + gk = len ∧ v10 = .int .i64 (i : Nat) ∧ Sd (Gth g b n vs wr) ∧ Sd (Below w.heap.size w wr))
  case atStart => exact ⟨0, _, by omega, rfl, HG, HB⟩
  case round =>
    clear HG HB
    obtain ⟨i, vs, hi, rfl, HG, HB⟩ := hrel
    by_cases hlt : i < len
    · have hii : (i : Int) < len := by omega
      obtain ⟨o, ho⟩ : ∃ o, l[i]? = some o := ⟨l[i]'(by rw [← HN.out]; exact hlt), List.getElem?_eq_getElem _⟩
      obtain ⟨b0, o0, rfl, c0, c1, i0, i1⟩ := op_at HO.out.row ho
      obtain ⟨of, ov⟩ := o
      simp only at c0 c1 i0 i1
      have I0 := Sd.mk i0
      have I1 := Sd.mk i1
      have q0 := cell_below HB.out c0
      have q1 := cell_below HB.out c1
      clear ho c0 c1 i0 i1
      obtain ⟨r, hr⟩ : ∃ r : Bool, r = true ↔ Takes vs ⟨of, ov⟩ := ⟨decide (Takes vs ⟨of, ov⟩), by simp⟩
      have HR := Sd.mk hr
      clear hr
      go_upto_region 8 with (fail)
      have HG4 := Sd.mk (HG.out.below (below_drew' (Below.refl wr.heap.size wr)))
      have HB4 := Sd.mk (below_drew' HB.out)
      go_still_tail 11, (by kernel_rfl)
      change wpList _ _ _ _ _ wr.drew
      clear q0 q1 HG HB
      generalize wr.drew = w4 at HG4 HB4 ⊢
      go_wp2_with (first
        | (go_at_call 24; (with_reducible refine (put_any HG4.out n1 of ov I0.out I1.out r HR.out).mono ?_); rintro e w5 ⟨rfl, hG5, hg5⟩; have HG5 := Sd.mk hG5; have HB5 := Sd.mk (bel_put HB4.out hbb hg5); clear hG5 hg5))
      go_roundg (gk - 1)
      case measure => omega
      case rel => exact ⟨i + 1, _, by omega, by go_num, HG5, HB5⟩
    · have hii : decide (i < len) = false := decide_eq_false (by omega)
      obtain ⟨t, ht⟩ := HG.out.top n1
      have HT := Sd.mk ht
      by_cases hra : n - fl n ≤ inn a vs
      · have HRA := Sd.mk (show true = decide (n - fl n ≤ inn a vs) from (decide_eq_true hra).symm)
        have hta : decide (a ≤ t) = true := decide_eq_true (ready_top n1 hra ht)
        by_cases hab : a = b2
        · subst hab
          have d0 : (a != a) = false := by simp
          clear ht hra
          go_wp2_with (first
            | (go_at_call 25; (with_reducible refine (ready_any (‹Sd (Gth g b n vs _)›).out n1 a true HRA.out).mono ?_); rintro e wq ⟨rfl, hBq⟩; have hg9 := Sd.mk ((‹Sd (Gth g b n vs _)›).out.below hBq); have hb9 := Sd.mk (below_then (‹Sd (Below w.heap.size w _)›).out hBq); clear hBq)
            | (go_at_call 26; (with_reducible refine (catch_any (‹Sd (Gth g b n vs _)›).out n1 t HT.out).mono ?_); rintro e wq ⟨rfl, hBq⟩; have hg9 := Sd.mk ((‹Sd (Gth g b n vs _)›).out.below hBq); have hb9 := Sd.mk (below_then (‹Sd (Below w.heap.size w _)›).out hBq); clear hBq))
          go_ret
          exact ⟨rfl, hb9.out⟩
        · have d0 : (a != b2) = true := by rw [bne_iff_ne]; exact hab
          have HRB := Sd.mk (show false = decide (n - fl n ≤ inn b2 vs) from (decide_eq_false (ready_one n1 HG.out.len hab hra)).symm)
          clear ht hra hab
          go_wp2_with (first
            | (go_at_call 25; (with_reducible refine (ready_any (‹Sd (Gth g b n vs _)›).out n1 a true HRA.out).mono ?_); rintro e wq ⟨rfl, hBq⟩; have hg9 := Sd.mk ((‹Sd (Gth g b n vs _)›).out.below hBq); have hb9 := Sd.mk (below_then (‹Sd (Below w.heap.size w _)›).out hBq); clear hBq)
            | (go_at_call 25; (with_reducible refine (ready_any (‹Sd (Gth g b n vs _)›).out n1 b2 false HRB.out).mono ?_); rintro e wq ⟨rfl, hBq⟩; have hg9 := Sd.mk ((‹Sd (Gth g b n vs _)›).out.below hBq); have hb9 := Sd.mk (below_then (‹Sd (Below w.heap.size w _)›).out hBq); clear hBq)
            | (go_at_call 26; (with_reducible refine (catch_any (‹Sd (Gth g b n vs _)›).out n1 t HT.out).mono ?_); rintro e wq ⟨rfl, hBq⟩; have hg9 := Sd.mk ((‹Sd (Gth g b n vs _)›).out.below hBq); have hb9 := Sd.mk (below_then (‹Sd (Below w.heap.size w _)›).out hBq); clear hBq))
          go_ret
          exact ⟨rfl, hb9.out⟩
      · have HRA := Sd.mk (show false = decide (n - fl n ≤ inn a vs) from (decide_eq_false hra).symm)
        by_cases hab : a = b2
        · subst hab
          have d0 : (a != a) = false := by simp
          clear ht hra
          go_wp2_with (first
            | (go_at_call 25; (with_reducible refine (ready_any (‹Sd (Gth g b n vs _)›).out n1 a false HRA.out).mono ?_); rintro e wq ⟨rfl, hBq⟩; have hg9 := Sd.mk ((‹Sd (Gth g b n vs _)›).out.below hBq); have hb9 := Sd.mk (below_then (‹Sd (Below w.heap.size w _)›).out hBq); clear hBq))
          go_ret
          exact ⟨rfl, hb9.out⟩
        · have d0 : (a != b2) = true := by rw [bne_iff_ne]; exact hab
          clear ht hra hab
          go_wp2_with (first
            | (go_at_call 25; (with_reducible refine (ready_any (‹Sd (Gth g b n vs _)›).out n1 a false HRA.out).mono ?_); rintro e wq ⟨rfl, hBq⟩; have hg9 := Sd.mk ((‹Sd (Gth g b n vs _)›).out.below hBq); have hb9 := Sd.mk (below_then (‹Sd (Below w.heap.size w _)›).out hBq); clear hBq))
          go_ret
          exact ⟨rfl, hb9.out⟩
-- L1>
set_option maxHeartbeats 8000000 in
set_option maxRecDepth 100000 in
theorem ready_row (w : World) (u : Int) (hu : (Lit.int .u8 u).wf = true) (A : Option Addr) (c : Nat) (l : List Tel) (hc : l.length ≤ c) (hcm : c ≤ maxLen) (hl : Row opK w A l) (x : List Int) (cs : List Value) (hx : (Rk.arr (Rk.int .i64) 2).K w x cs) :
    Calls Try.prog 5 #[.int .u8 u, .slice A l.length c, .agg cs.toArray] w fun e w' => e = .returned (.bool true) ∧ Below w.heap.size w w' := by
  obtain ⟨a, b2, rfl, -, -⟩ := Arr.two_ints hx
  have bu : 0 ≤ u ∧ u ≤ 255 := by simpa [Lit.wf, IntKind.min, IntKind.max, IntKind.bits, IntKind.signed] using hu
  obtain ⟨a0, rfl⟩ : ∃ a : Nat, u = (a : Int) := ⟨u.toNat, by omega⟩
  have HO := Sd.mk (show Ops w A c l from ⟨hc, by unfold maxLen at hcm; omega, hl⟩)
  have lc : l.length ≤ 9223372036854775807 := by unfold maxLen at hcm; omega
  obtain ⟨len, hn⟩ : ∃ n, n = l.length := ⟨_, rfl⟩
  have HN := Sd.mk hn
  rw [← hn] at lc ⊢
  clear hc hcm hl hn hu hx
  show Calls Try.prog 5 #[.int .u8 (a0 : Int), .slice A len c, .agg #[.int .i64 a, .int .i64 b2]] w _
  by_cases h60 : len ≤ 60
  · exact ready_few w a0 (by omega) A c l HO len HN lc h60 a b2
  · have h60' : decide ((60 : Int) < (len : Int)) = true := decide_eq_true (by omega)
    have h60'' : decide (60 < len) = true := decide_eq_true (by omega)
    go_enter Try.func5, Try.ntmps5
    go_upto_region 1 with (fail)
    have X0 := blk_new w (.cells #[.int .i64 a, .int .i64 b2] 32)
    have B0 := below_one w (.cells #[.int .i64 a, .int .i64 b2] 32)
    generalize w.alloc _ = W0 at X0 B0 ⊢
    have y0 := blk_at X0 0 _ rfl
    have y1 := blk_at X0 1 _ rfl
    have HB0 := Sd.mk B0
    clear X0 B0
    go_quiet (fail)
    have hb9 := Sd.mk (below_drewN HB0.out nq)
    clear HB0 y0 y1
    generalize W0.drewN nq = W00 at hb9 ⊢
    go_wp2_with (first
      | (go_at_call 22; (with_reducible refine (awake_any _).mono ?_); rintro e wa ⟨rfl, hba⟩; have hb9 := Sd.mk (below_then (‹Sd (Below w.heap.size w _)›).out hba); clear hba))
    go_ret
    exact ⟨rfl, hb9.out⟩
end Go.Proofs.Ytgleoeiiiadanaa.Gat
