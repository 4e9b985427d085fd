/- A tally: which votes are taken: walked. -/
import Derived.Test.YtdmdfpbklflijaaTalA
set_option linter.unusedVariables false
set_option linter.unusedSimpArgs false
namespace Go.Proofs.Ytdmdfpbklflijaa.Tal
open Go.RowKit Rd Api Own Mv App Mk Num Dig Mac

/-- the same node's, in the same view -/
def same (y x : Vt) : Bool := x.v == y.v && x.s.f == y.s.f
set_option maxHeartbeats 1000000 in
theorem takes1_any (W : World) (Bv : Nat) (y x : Vt) (hB : W.heap[Bv]? = some (.cells #[.int .i64 y.v, .string y.b, .int .i64 y.s.f, .slice y.s.a y.s.n y.s.c] 113 (0, 0))) (r : Bool) (hr : same y x = r) :
    Calls Try.prog 100 #[.agg #[.int .i64 x.v, .string x.b, .int .i64 x.s.f, .slice x.s.a x.s.n x.s.c], .pointer (some ⟨Bv, 0, none⟩)] W fun e w' => e = .returned (.bool r) ∧ Below W.heap.size W w' := by
  have hB2 := blk_keep hB (below_one W (.cells #[.int .i64 x.v, .string x.b, .int .i64 x.s.f, .slice x.s.a x.s.n x.s.c] 113))
  have c0 := blk_at hB2 0 _ rfl
  have c2 := blk_at hB2 2 _ rfl
  obtain ⟨r0, hr0⟩ : ∃ r, (x.v == y.v) = r := ⟨_, rfl⟩
  obtain ⟨r1, hr1⟩ : ∃ r, (x.s.f == y.s.f) = r := ⟨_, rfl⟩
  have HR := Sd.mk (show (r0 && r1) = r by rw [← hr, ← hr0, ← hr1]; rfl)
  clear hB hB2 hr
  cases r0 with
  | false =>
    obtain rfl := HR.out
    go_enter Try.func100, Try.ntmps100
    go_wp2
    go_ret
    exact ⟨rfl, below_one _ _⟩
  | true =>
    obtain rfl := HR.out
    go_enter Try.func100, Try.ntmps100
    go_wp2
    go_ret
    exact ⟨by simp, below_one _ _⟩
set_option maxHeartbeats 4000000 in
set_option maxRecDepth 100000 in
theorem index_any (w : World) (A : Option Addr) (c : Nat) (vs : List Vt) (hs : Sl vtK w A c vs) (Bv : Nat) (y : Vt) (hB : w.heap[Bv]? = some (.cells #[.int .i64 y.v, .string y.b, .int .i64 y.s.f, .slice y.s.a y.s.n y.s.c] 113 (0, 0))) (m : Nat) (hm : m = vs.length) :
    Calls Try.prog 101 #[.slice A m c, .func (.func 100) #[] #[.pointer (some ⟨Bv, 0, none⟩)]] w fun e w' => ∃ k : Int, e = .returned (.int .i64 k) ∧ (0 ≤ k ∧ vs.any (same y) = true ∨ k = -1 ∧ vs.any (same y) = false) ∧ Below w.heap.size w w' := by
  have HS := Sd.mk hs
  have HBv := Sd.mk hB
  have HM := Sd.mk hm
  have mc := Nat.le_trans hs.le hs.cap
  rw [← hm] at mc
  clear hs hB hm
  have H0 := Sd.mk (Below.refl w.heap.size w)
  go_enter Try.func101, Try.ntmps101
  go_wp2
  go_loopg [5, 8] m (fun gk v5 v8 wr => ∃ i, i + gk = m ∧ v8 = .int .i64 (i : Nat) ∧ Sd ((vs.take i).any (same y) = false) ∧ Sd (Below w.heap.size w wr))
  case atStart => exact ⟨0, by omega, rfl, ⟨rfl⟩, H0⟩
  case round =>
    clear H0
    obtain ⟨i, hi, rfl, HA, HB⟩ := hrel
    by_cases hlt : i < m
    · have hii : (i : Int) < m := by omega
      obtain ⟨x, hx⟩ : ∃ x, vs[i]? = some x := ⟨vs[i]'(by rw [← HM.out]; exact hlt), List.getElem?_eq_getElem _⟩
      obtain ⟨b1, o1, rfl, p0, p1, p2, p3⟩ := vt_at HS.out.row hx
      have HX := Sd.mk hx
      have c0 := cell_below HB.out p0
      have c1 := cell_below HB.out p1
      have c2 := cell_below HB.out p2
      have c3 := cell_below HB.out p3
      obtain ⟨r, hr⟩ : ∃ r, same y x = r := ⟨_, rfl⟩
      have HR := Sd.mk hr
      clear hx p0 p1 p2 p3 hr
      cases r with
      | true =>
        have HY := Sd.mk (show vs.any (same y) = true from List.any_eq_true.2 ⟨x, List.mem_of_getElem? HX.out, HR.out⟩)
        go_wp2_with (first
          | (go_at_call 100; (with_reducible refine (takes1_any _ Bv y x (blk_keep HBv.out HB.out) true HR.out).mono ?_); rintro e w2 ⟨rfl, hb⟩; have HB2 := Sd.mk (below_then HB.out hb); clear hb))
        go_ret
        exact ⟨(i : Int), rfl, .inl ⟨by omega, HY.out⟩, HB2.out⟩
      | false =>
        have HA2 := Sd.mk (show (vs.take (i + 1)).any (same y) = false by rw [List.take_add_one, HX.out]; simp only [Option.toList_some, List.any_append, HA.out]; simp [HR.out])
        go_wp2_with (first
          | (go_at_call 100; (with_reducible refine (takes1_any _ Bv y x (blk_keep HBv.out HB.out) false HR.out).mono ?_); rintro e w2 ⟨rfl, hb⟩; have HB2 := Sd.mk (below_then HB.out hb); clear hb))
        go_roundg (gk - 1)
        case measure => omega
        case rel => exact ⟨i + 1, by omega, by go_num, HA2, HB2⟩
    · have hii : decide (i < m) = false := decide_eq_false (by omega)
      have HE := Sd.mk (show vs.any (same y) = false by have := HA.out; rwa [List.take_of_length_le (by rw [← HM.out]; omega)] at this)
      go_wp2
      go_ret
      exact ⟨-1, rfl, .inr ⟨rfl, HE.out⟩, HB.out⟩
set_option maxHeartbeats 1000000 in
theorem contains_any (w : World) (A : Option Addr) (c : Nat) (vs : List Vt) (hs : Sl vtK w A c vs) (Bv : Nat) (y : Vt) (hB : w.heap[Bv]? = some (.cells #[.int .i64 y.v, .string y.b, .int .i64 y.s.f, .slice y.s.a y.s.n y.s.c] 113 (0, 0))) (m : Nat) (hm : m = vs.length) (r : Bool) (hr : vs.any (same y) = r) :
    Calls Try.prog 99 #[.slice A m c, .func (.func 100) #[] #[.pointer (some ⟨Bv, 0, none⟩)]] w fun e w' => e = .returned (.bool r) ∧ Below w.heap.size w w' := by
  have HI := Sd.mk (index_any w A c vs hs Bv y hB m hm)
  have HR := Sd.mk hr
  clear hs hB hm hr
  go_enter Try.func99, Try.ntmps99
  go_upto_region 1 with (fail)
  cases r with
  | true =>
    go_wp2_with (first
      | (go_at_call 101; (with_reducible refine HI.out.mono ?_); rintro e w1 ⟨k, rfl, hk, hb⟩; have hk0 : 0 ≤ k := (by rcases hk with h | h; exact h.1; exact absurd (h.2.symm.trans HR.out) (by simp)); have d0 : decide (0 ≤ k) = true := decide_eq_true hk0; have HB := Sd.mk hb; clear hk hb))
    go_ret
    exact ⟨rfl, HB.out⟩
  | false =>
    go_wp2_with (first
      | (go_at_call 101; (with_reducible refine HI.out.mono ?_); rintro e w1 ⟨k, rfl, hk, hb⟩; obtain rfl : k = -1 := (by rcases hk with h | h; exact absurd (h.2.symm.trans HR.out) (by simp); exact h.1); have HB := Sd.mk hb; clear hk hb))
    go_ret
    exact ⟨rfl, HB.out⟩
end Go.Proofs.Ytdmdfpbklflijaa.Tal
