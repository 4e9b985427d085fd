/- When to vote: May, Vote, walked. -/
import Derived.Test.YtjpjphdcpdjlkaaFew
set_option linter.unusedVariables false
set_option linter.unusedSimpArgs false
namespace Go.Proofs.Ytjpjphdcpdjlkaa.Rule
open Go.RowKit Rd Api

def stK : Rk (Int × Int × Unit) := Rk.pair (Rk.int .i64) (Rk.pair (Rk.int .i64) Rk.unit)
theorem opens_st : Opens Try.prog 26 stK :=
  opens_struct Try.underlying26 (by kernel_rfl) (fs_cons rfl (by kernel_rfl) (opens_int Try.underlying3) (fs_cons rfl (by kernel_rfl) (opens_int Try.underlying3) (fs_nil _)))
theorem st_open {w : World} {x : Int × Int × Unit} {cs : List Value} (h : stK.K w x cs) : cs = [.int .i64 x.1, .int .i64 x.2.1] ∧ IsI64 x.1 ∧ IsI64 x.2.1 := by
  obtain ⟨_, _, rfl, ⟨rfl, h1⟩, _, _, rfl, ⟨rfl, h2⟩, rfl⟩ := h
  exact ⟨rfl, i64_of h1, i64_of h2⟩
def may (sv sl : Int) (b : Blk) : Bool := decide (sv < b.view ∧ sl ≤ b.just.view)

/-- the view of the last vote, behind a block -/
def pickV (r : Bool) (x y : Int) : Int := match r with | true => x | false => y


set_option maxHeartbeats 4000000 in
set_option maxRecDepth 100000 in
theorem may_any (w : World) (sv sl : Int) (b : Blk) (A : Option Addr) (c : Nat) (B : Option Addr) (d : Nat) (r : Bool) (hr : may sv sl b = r) :
    Calls Try.prog 25 #[.agg #[.int .i64 sv, .int .i64 sl], .agg #[.int .i64 b.view, .int .i64 b.prop, .int .i64 b.just.view, .string b.just.block, .slice A b.just.sigs.length c, .slice B b.batch.length d]] w fun e w' => e = .returned (.bool r) ∧ Below w.heap.size w w' := by
  have HB := Sd.mk (below_then (below_one w (.cells #[.int .i64 sv, .int .i64 sl] 26)) (below_one _ (.cells #[.int .i64 b.view, .int .i64 b.prop, .int .i64 b.just.view, .string b.just.block, .slice A b.just.sigs.length c, .slice B b.batch.length d] 35)))
  by_cases h1 : sv < b.view
  · by_cases h2 : sl ≤ b.just.view
    · obtain rfl : r = true := by rw [← hr]; exact decide_eq_true ⟨h1, h2⟩
      clear hr
      go_enter Try.func25, Try.ntmps25
      go_wp2
      go_ret
      exact ⟨rfl, HB.out⟩
    · obtain rfl : r = false := by rw [← hr]; exact decide_eq_false (fun h => h2 h.2)
      have h2' : decide (sl ≤ b.just.view) = false := decide_eq_false h2
      clear hr h2
      go_enter Try.func25, Try.ntmps25
      go_wp2
      go_ret
      exact ⟨rfl, HB.out⟩
  · obtain rfl : r = false := by rw [← hr]; exact decide_eq_false (fun h => h1 h.1)
    have h1' : decide (sv < b.view) = false := decide_eq_false h1
    clear hr h1
    go_enter Try.func25, Try.ntmps25
    go_wp2
    go_ret
    exact ⟨rfl, HB.out⟩

set_option maxHeartbeats 4000000 in
set_option maxRecDepth 100000 in
theorem vote_any (w : World) (sv sl : Int) (b : Blk) (A : Option Addr) (c : Nat) (B : Option Addr) (d : Nat) (r : Bool) (hr : may sv sl b = r) (v : Int) (hv : pickV r b.view sv = v) :
    Calls Try.prog 24 #[.agg #[.int .i64 sv, .int .i64 sl], .agg #[.int .i64 b.view, .int .i64 b.prop, .int .i64 b.just.view, .string b.just.block, .slice A b.just.sigs.length c, .slice B b.batch.length d]] w fun e w' => e = .returned (.tuple #[.agg #[.int .i64 v, .int .i64 sl], .bool r]) ∧ Below w.heap.size w w' := by
  have X3 := Sd.mk (blk_keep (blk_keep (blk_new w (.cells #[.int .i64 sv, .int .i64 sl] 26)) (below_one _ (.cells #[.int .i64 b.view, .int .i64 b.prop, .int .i64 b.just.view, .string b.just.block, .slice A b.just.sigs.length c, .slice B b.batch.length d] 35))) (below_one _ (.cells #[.int .i64 0, .int .i64 0] 26)))
  have X4 := Sd.mk (blk_keep (blk_new1 w (.cells #[.int .i64 sv, .int .i64 sl] 26) (.cells #[.int .i64 b.view, .int .i64 b.prop, .int .i64 b.just.view, .string b.just.block, .slice A b.just.sigs.length c, .slice B b.batch.length d] 35)) (below_one _ (.cells #[.int .i64 0, .int .i64 0] 26)))
  have X5 := Sd.mk (blk_new2 w (.cells #[.int .i64 sv, .int .i64 sl] 26) (.cells #[.int .i64 b.view, .int .i64 b.prop, .int .i64 b.just.view, .string b.just.block, .slice A b.just.sigs.length c, .slice B b.batch.length d] 35) (.cells #[.int .i64 0, .int .i64 0] 26))
  have HB := Sd.mk (below_then (below_then (below_one w (.cells #[.int .i64 sv, .int .i64 sl] 26)) (below_one _ (.cells #[.int .i64 b.view, .int .i64 b.prop, .int .i64 b.just.view, .string b.just.block, .slice A b.just.sigs.length c, .slice B b.batch.length d] 35))) (below_one _ (.cells #[.int .i64 0, .int .i64 0] 26)))
  cases r with
  | true =>
    obtain rfl : b.view = v := hv
    have HR := Sd.mk hr
    clear hr
    go_enter Try.func24, Try.ntmps24
    go_wp2_with (first | (go_at_call 25; (with_reducible refine (may_any _ sv sl b A c B d true HR.out).mono ?_); rintro e w' ⟨rfl, hb⟩; have n3 := Sd.mk (blk_keep X3.out hb); have n4 := Sd.mk (blk_keep X4.out hb); have n5 := Sd.mk (blk_keep X5.out hb); have nB := Sd.mk (below_then HB.out hb); clear X3 X4 X5 HB hb; have X3 := n3; have X4 := n4; have X5 := n5; have HB := nB; clear n3 n4 n5 nB; have c30 := blk_at X3.out 0 _ rfl; have c31 := blk_at X3.out 1 _ rfl; have f30 := blk_frz X3.out 0; have c40 := blk_at X4.out 0 _ rfl; have c50 := blk_at X5.out 0 _ rfl; have c51 := blk_at X5.out 1 _ rfl; have f50 := blk_frz X5.out 0; have f51 := blk_frz X5.out 1))
    refine bodyPost_ret (v := .tuple #[.agg #[.int .i64 b.view, .int .i64 sl], .bool true]) (by simp [results, Try.results24, go_sem, c30, c31, c50, c51]) rfl ⟨rfl, ?_⟩
    exact ((HB.out.setCell (by simp <;> omega) _).setCell (by simp <;> omega) _).setCell (by simp <;> omega) _
  | false =>
    obtain rfl : sv = v := hv
    have HR := Sd.mk hr
    clear hr
    go_enter Try.func24, Try.ntmps24
    go_wp2_with (first | (go_at_call 25; (with_reducible refine (may_any _ sv sl b A c B d false HR.out).mono ?_); rintro e w' ⟨rfl, hb⟩; have n3 := Sd.mk (blk_keep X3.out hb); have n4 := Sd.mk (blk_keep X4.out hb); have n5 := Sd.mk (blk_keep X5.out hb); have nB := Sd.mk (below_then HB.out hb); clear X3 X4 X5 HB hb; have X3 := n3; have X4 := n4; have X5 := n5; have HB := nB; clear n3 n4 n5 nB; have c30 := blk_at X3.out 0 _ rfl; have c31 := blk_at X3.out 1 _ rfl; have f30 := blk_frz X3.out 0; have c40 := blk_at X4.out 0 _ rfl; have c50 := blk_at X5.out 0 _ rfl; have c51 := blk_at X5.out 1 _ rfl; have f50 := blk_frz X5.out 0; have f51 := blk_frz X5.out 1))
    refine bodyPost_ret (v := .tuple #[.agg #[.int .i64 sv, .int .i64 sl], .bool false]) (by simp [results, Try.results24, go_sem, c30, c31, c50, c51]) rfl ⟨rfl, ?_⟩
    exact (HB.out.setCell (by simp <;> omega) _).setCell (by simp <;> omega) _

set_option maxHeartbeats 4000000 in
set_option maxRecDepth 100000 in
theorem awake_any (w : World) : Calls Try.prog 22 #[] w fun e w' => e = .returned (.bool true) ∧ Below w.heap.size w w' := by
  go_enter Try.func22, Try.ntmps22
  go_wp2
  go_ret
  exact ⟨rfl, below_then (below_one _ _) (below_one _ _)⟩
end Go.Proofs.Ytjpjphdcpdjlkaa.Rule
