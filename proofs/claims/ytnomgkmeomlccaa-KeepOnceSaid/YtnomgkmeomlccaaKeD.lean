/- Two lists of requests that are the same: comitiaref11.Same; keep.Len: walked. -/
import Derived.Test.YtnomgkmeomlccaaKeC
set_option linter.unusedVariables false
set_option linter.unusedSimpArgs false
namespace Go.Proofs.Ytnomgkmeomlccaa.Kee
open Go.RowKit Go.Sort Rd Api Own Mv App Num Dig
open Blk (Block Rq rqN fR rq_at)

set_option maxHeartbeats 4000000 in
set_option maxRecDepth 100000 in
theorem same_any (w : World) (A B : Option Addr) (c d : Nat) (l : List Rq) (h1 : Sl rqN w A c l) (h2 : Sl rqN w B d l) (n : Nat) (hn : n = l.length) :
    Calls Try.prog 16 #[.slice A n c, .slice B n d] w fun e w' => e = .returned (.bool true) ∧ RowKit.Below w.heap.size w w' := by
  have R1 := Sd.mk h1
  have R2 := Sd.mk h2
  have lc := Nat.le_trans h1.le h1.cap
  have HN := Sd.mk hn
  have hc1 := h1.le
  have hc2 := h1.cap
  have hd1 := h2.le
  have hd2 := h2.cap
  rw [← hn] at lc hc1 hd1
  clear h1 h2 hn
  go_enter Try.func16, Try.ntmps16
  go_wp2
  go_loopg [5] n (fun gk v5 wr => ∃ i, i + gk = n ∧ v5 = .int .i64 (i : Nat) ∧ Sd (RowKit.Below w.heap.size w wr))
  case atStart => exact ⟨0, by omega, rfl, ⟨Below.refl _ _⟩⟩
  case round =>
    obtain ⟨i, hi, rfl, HB⟩ := hrel
    by_cases hlt : i < n
    · have hii : (i : Int) < n := by omega
      obtain ⟨y, hy⟩ : ∃ y, l[i]? = some y := ⟨l[i]'(by rw [← HN.out]; exact hlt), List.getElem?_eq_getElem _⟩
      obtain ⟨b1, o1, rfl, p0, p1, p2⟩ := rq_at R1.out.row hy
      obtain ⟨b2, o2, rfl, r0, r1, r2⟩ := rq_at R2.out.row hy
      have p0 := cell_below HB.out p0
      have p1 := cell_below HB.out p1
      have p2 := cell_below HB.out p2
      have r0 := cell_below HB.out r0
      have r1 := cell_below HB.out r1
      have r2 := cell_below HB.out r2
      clear hy
      go_upto_region 6 with (fail)
      go_quiet (fail)
      go_wp2
      go_roundg (gk - 1)
      case measure => omega
      case rel => exact ⟨i + 1, by omega, by go_num, ⟨below_drewN HB.out nq⟩⟩
    · have hii : decide (i < n) = false := decide_eq_false (by omega)
      have hii2 : decide ((i : Int) < (n : Int)) = false := decide_eq_false (by omega)
      go_wp2
      go_ret
      exact ⟨rfl, HB.out⟩
set_option maxHeartbeats 1000000 in
theorem len_any (w : World) (g n : Nat) (A : Option Addr) (c : Nat) (v2 v3 : Value) (h : w.heap[g]? = some (.cells #[.slice A n c, v2, v3] 100 (0, 0))) : Calls Try.prog 15 #[.pointer (some ⟨g, 0, none⟩)] w fun e w' => e = .returned (.int .i64 (n : Nat)) ∧ w' = w := by
  have c0 := blk_at h 0 _ rfl
  clear h
  go_enter Try.func15, Try.ntmps15
  go_wp2
  go_ret
  exact ⟨rfl, rfl⟩
end Go.Proofs.Ytnomgkmeomlccaa.Kee
