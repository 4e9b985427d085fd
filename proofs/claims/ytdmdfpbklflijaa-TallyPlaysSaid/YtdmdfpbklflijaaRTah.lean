/- The reference's tally: whether a vote holds: walked. The reference's tally: Add: walked. -/
import Derived.Test.YtdmdfpbklflijaaRTal
set_option linter.unusedVariables false
set_option linter.unusedSimpArgs false
namespace Go.Proofs.Ytdmdfpbklflijaa.Tal
open Go.RowKit Go.Sort Rd Api Own Mv App Mk Num Dig Mac


set_option maxHeartbeats 8000000 in
set_option maxRecDepth 100000 in
theorem refholds_no0 (w : World) (h : Nat) (seed : ByteArray) (tn n below : Int) (v : Value) (hb : w.heap[h]? = some (.cells #[.string seed, .int .i64 tn, .int .i64 n, .int .i64 below, v] 67 (0, 0))) (y : Vt) (m : Nat) (hm : m ≤ 9223372036854775807) (bl : Bool) (r : Bool) (hr : r = false)  (h0 : n < 1) : Calls Try.prog 73 #[.pointer (some ⟨h, 0, none⟩), .agg #[.int .i64 y.v, .string y.b, .int .i64 y.s.f, .slice y.s.a m y.s.c, .bool bl]] w fun e w' => e = .returned (.bool r) ∧ RowKit.Below w.heap.size w w' := by
  subst hr
  have HB := Sd.mk (below_one w (.cells #[.int .i64 y.v, .string y.b, .int .i64 y.s.f, .slice y.s.a m y.s.c, .bool bl] 69))
  have X0 := Sd.mk (blk_new w (.cells #[.int .i64 y.v, .string y.b, .int .i64 y.s.f, .slice y.s.a m y.s.c, .bool bl] 69))
  have R0 := Sd.mk (blk_keep hb (below_one w (.cells #[.int .i64 y.v, .string y.b, .int .i64 y.s.f, .slice y.s.a m y.s.c, .bool bl] 69)))

  have d0 : decide (n < 1) = true := decide_eq_true h0
  clear hb
  go_enter Try.func73, Try.ntmps73
  go_upto_region 1 with (fail)
  generalize w.heap.size = Bx at X0 ⊢
  generalize w.alloc _ = W1 at X0 R0 HB ⊢
  have c2 := blk_at X0.out 2 _ rfl
  have c3 := blk_at X0.out 3 _ rfl
  have r1 := blk_at R0.out 1 _ rfl
  have r2 := blk_at R0.out 2 _ rfl
  go_quiet (fail)
  go_wp2
  go_ret
  exact ⟨rfl, below_drewN HB.out nq⟩

set_option maxHeartbeats 8000000 in
set_option maxRecDepth 100000 in
theorem refholds_no1 (w : World) (h : Nat) (seed : ByteArray) (tn n below : Int) (v : Value) (hb : w.heap[h]? = some (.cells #[.string seed, .int .i64 tn, .int .i64 n, .int .i64 below, v] 67 (0, 0))) (y : Vt) (m : Nat) (hm : m ≤ 9223372036854775807) (bl : Bool) (r : Bool) (hr : r = false) (h0 : ¬ (n < 1)) (h1 : 7 < n) : Calls Try.prog 73 #[.pointer (some ⟨h, 0, none⟩), .agg #[.int .i64 y.v, .string y.b, .int .i64 y.s.f, .slice y.s.a m y.s.c, .bool bl]] w fun e w' => e = .returned (.bool r) ∧ RowKit.Below w.heap.size w w' := by
  subst hr
  have HB := Sd.mk (below_one w (.cells #[.int .i64 y.v, .string y.b, .int .i64 y.s.f, .slice y.s.a m y.s.c, .bool bl] 69))
  have X0 := Sd.mk (blk_new w (.cells #[.int .i64 y.v, .string y.b, .int .i64 y.s.f, .slice y.s.a m y.s.c, .bool bl] 69))
  have R0 := Sd.mk (blk_keep hb (below_one w (.cells #[.int .i64 y.v, .string y.b, .int .i64 y.s.f, .slice y.s.a m y.s.c, .bool bl] 69)))
  have d0 : decide (n < 1) = false := decide_eq_false h0
  have d1 : decide (7 < n) = true := decide_eq_true h1
  clear hb
  go_enter Try.func73, Try.ntmps73
  go_upto_region 1 with (fail)
  generalize w.heap.size = Bx at X0 ⊢
  generalize w.alloc _ = W1 at X0 R0 HB ⊢
  have c2 := blk_at X0.out 2 _ rfl
  have c3 := blk_at X0.out 3 _ rfl
  have r1 := blk_at R0.out 1 _ rfl
  have r2 := blk_at R0.out 2 _ rfl
  go_quiet (fail)
  go_wp2
  go_ret
  exact ⟨rfl, below_drewN HB.out nq⟩

set_option maxHeartbeats 8000000 in
set_option maxRecDepth 100000 in
theorem refholds_no2 (w : World) (h : Nat) (seed : ByteArray) (tn n below : Int) (v : Value) (hb : w.heap[h]? = some (.cells #[.string seed, .int .i64 tn, .int .i64 n, .int .i64 below, v] 67 (0, 0))) (y : Vt) (m : Nat) (hm : m ≤ 9223372036854775807) (bl : Bool) (r : Bool) (hr : r = false) (h0 : ¬ (n < 1)) (h1 : ¬ (7 < n)) (h2 : tn < 0) : Calls Try.prog 73 #[.pointer (some ⟨h, 0, none⟩), .agg #[.int .i64 y.v, .string y.b, .int .i64 y.s.f, .slice y.s.a m y.s.c, .bool bl]] w fun e w' => e = .returned (.bool r) ∧ RowKit.Below w.heap.size w w' := by
  subst hr
  have HB := Sd.mk (below_one w (.cells #[.int .i64 y.v, .string y.b, .int .i64 y.s.f, .slice y.s.a m y.s.c, .bool bl] 69))
  have X0 := Sd.mk (blk_new w (.cells #[.int .i64 y.v, .string y.b, .int .i64 y.s.f, .slice y.s.a m y.s.c, .bool bl] 69))
  have R0 := Sd.mk (blk_keep hb (below_one w (.cells #[.int .i64 y.v, .string y.b, .int .i64 y.s.f, .slice y.s.a m y.s.c, .bool bl] 69)))
  have d0 : decide (n < 1) = false := decide_eq_false h0
  have d1 : decide (7 < n) = false := decide_eq_false h1
  have d2 : decide (tn < 0) = true := decide_eq_true h2
  clear hb
  go_enter Try.func73, Try.ntmps73
  go_upto_region 1 with (fail)
  generalize w.heap.size = Bx at X0 ⊢
  generalize w.alloc _ = W1 at X0 R0 HB ⊢
  have c2 := blk_at X0.out 2 _ rfl
  have c3 := blk_at X0.out 3 _ rfl
  have r1 := blk_at R0.out 1 _ rfl
  have r2 := blk_at R0.out 2 _ rfl
  go_quiet (fail)
  go_wp2
  go_ret
  exact ⟨rfl, below_drewN HB.out nq⟩

set_option maxHeartbeats 8000000 in
set_option maxRecDepth 100000 in
theorem refholds_no3 (w : World) (h : Nat) (seed : ByteArray) (tn n below : Int) (v : Value) (hb : w.heap[h]? = some (.cells #[.string seed, .int .i64 tn, .int .i64 n, .int .i64 below, v] 67 (0, 0))) (y : Vt) (m : Nat) (hm : m ≤ 9223372036854775807) (bl : Bool) (r : Bool) (hr : r = false) (h0 : ¬ (n < 1)) (h1 : ¬ (7 < n)) (h2 : ¬ (tn < 0)) (h3 : n ≤ tn) : Calls Try.prog 73 #[.pointer (some ⟨h, 0, none⟩), .agg #[.int .i64 y.v, .string y.b, .int .i64 y.s.f, .slice y.s.a m y.s.c, .bool bl]] w fun e w' => e = .returned (.bool r) ∧ RowKit.Below w.heap.size w w' := by
  subst hr
  have HB := Sd.mk (below_one w (.cells #[.int .i64 y.v, .string y.b, .int .i64 y.s.f, .slice y.s.a m y.s.c, .bool bl] 69))
  have X0 := Sd.mk (blk_new w (.cells #[.int .i64 y.v, .string y.b, .int .i64 y.s.f, .slice y.s.a m y.s.c, .bool bl] 69))
  have R0 := Sd.mk (blk_keep hb (below_one w (.cells #[.int .i64 y.v, .string y.b, .int .i64 y.s.f, .slice y.s.a m y.s.c, .bool bl] 69)))
  have d0 : decide (n < 1) = false := decide_eq_false h0
  have d1 : decide (7 < n) = false := decide_eq_false h1
  have d2 : decide (tn < 0) = false := decide_eq_false h2
  have d3 : decide (n ≤ tn) = true := decide_eq_true h3
  clear hb
  go_enter Try.func73, Try.ntmps73
  go_upto_region 1 with (fail)
  generalize w.heap.size = Bx at X0 ⊢
  generalize w.alloc _ = W1 at X0 R0 HB ⊢
  have c2 := blk_at X0.out 2 _ rfl
  have c3 := blk_at X0.out 3 _ rfl
  have r1 := blk_at R0.out 1 _ rfl
  have r2 := blk_at R0.out 2 _ rfl
  go_quiet (fail)
  go_wp2
  go_ret
  exact ⟨rfl, below_drewN HB.out nq⟩

set_option maxHeartbeats 8000000 in
set_option maxRecDepth 100000 in
theorem refholds_no4 (w : World) (h : Nat) (seed : ByteArray) (tn n below : Int) (v : Value) (hb : w.heap[h]? = some (.cells #[.string seed, .int .i64 tn, .int .i64 n, .int .i64 below, v] 67 (0, 0))) (y : Vt) (m : Nat) (hm : m ≤ 9223372036854775807) (bl : Bool) (r : Bool) (hr : r = false) (h0 : ¬ (n < 1)) (h1 : ¬ (7 < n)) (h2 : ¬ (tn < 0)) (h3 : ¬ (n ≤ tn)) (h4 : y.s.f < 0) : Calls Try.prog 73 #[.pointer (some ⟨h, 0, none⟩), .agg #[.int .i64 y.v, .string y.b, .int .i64 y.s.f, .slice y.s.a m y.s.c, .bool bl]] w fun e w' => e = .returned (.bool r) ∧ RowKit.Below w.heap.size w w' := by
  subst hr
  have HB := Sd.mk (below_one w (.cells #[.int .i64 y.v, .string y.b, .int .i64 y.s.f, .slice y.s.a m y.s.c, .bool bl] 69))
  have X0 := Sd.mk (blk_new w (.cells #[.int .i64 y.v, .string y.b, .int .i64 y.s.f, .slice y.s.a m y.s.c, .bool bl] 69))
  have R0 := Sd.mk (blk_keep hb (below_one w (.cells #[.int .i64 y.v, .string y.b, .int .i64 y.s.f, .slice y.s.a m y.s.c, .bool bl] 69)))
  have d0 : decide (n < 1) = false := decide_eq_false h0
  have d1 : decide (7 < n) = false := decide_eq_false h1
  have d2 : decide (tn < 0) = false := decide_eq_false h2
  have d3 : decide (n ≤ tn) = false := decide_eq_false h3
  have d4 : decide (y.s.f < 0) = true := decide_eq_true h4
  clear hb
  go_enter Try.func73, Try.ntmps73
  go_upto_region 1 with (fail)
  generalize w.heap.size = Bx at X0 ⊢
  generalize w.alloc _ = W1 at X0 R0 HB ⊢
  have c2 := blk_at X0.out 2 _ rfl
  have c3 := blk_at X0.out 3 _ rfl
  have r1 := blk_at R0.out 1 _ rfl
  have r2 := blk_at R0.out 2 _ rfl
  go_quiet (fail)
  go_wp2
  go_ret
  exact ⟨rfl, below_drewN HB.out nq⟩

set_option maxHeartbeats 8000000 in
set_option maxRecDepth 100000 in
theorem refholds_no5 (w : World) (h : Nat) (seed : ByteArray) (tn n below : Int) (v : Value) (hb : w.heap[h]? = some (.cells #[.string seed, .int .i64 tn, .int .i64 n, .int .i64 below, v] 67 (0, 0))) (y : Vt) (m : Nat) (hm : m ≤ 9223372036854775807) (bl : Bool) (r : Bool) (hr : r = false) (h0 : ¬ (n < 1)) (h1 : ¬ (7 < n)) (h2 : ¬ (tn < 0)) (h3 : ¬ (n ≤ tn)) (h4 : ¬ (y.s.f < 0)) (h5 : n ≤ y.s.f) : Calls Try.prog 73 #[.pointer (some ⟨h, 0, none⟩), .agg #[.int .i64 y.v, .string y.b, .int .i64 y.s.f, .slice y.s.a m y.s.c, .bool bl]] w fun e w' => e = .returned (.bool r) ∧ RowKit.Below w.heap.size w w' := by
  subst hr
  have HB := Sd.mk (below_one w (.cells #[.int .i64 y.v, .string y.b, .int .i64 y.s.f, .slice y.s.a m y.s.c, .bool bl] 69))
  have X0 := Sd.mk (blk_new w (.cells #[.int .i64 y.v, .string y.b, .int .i64 y.s.f, .slice y.s.a m y.s.c, .bool bl] 69))
  have R0 := Sd.mk (blk_keep hb (below_one w (.cells #[.int .i64 y.v, .string y.b, .int .i64 y.s.f, .slice y.s.a m y.s.c, .bool bl] 69)))
  have d0 : decide (n < 1) = false := decide_eq_false h0
  have d1 : decide (7 < n) = false := decide_eq_false h1
  have d2 : decide (tn < 0) = false := decide_eq_false h2
  have d3 : decide (n ≤ tn) = false := decide_eq_false h3
  have d4 : decide (y.s.f < 0) = false := decide_eq_false h4
  have d5 : decide (n ≤ y.s.f) = true := decide_eq_true h5
  clear hb
  go_enter Try.func73, Try.ntmps73
  go_upto_region 1 with (fail)
  generalize w.heap.size = Bx at X0 ⊢
  generalize w.alloc _ = W1 at X0 R0 HB ⊢
  have c2 := blk_at X0.out 2 _ rfl
  have c3 := blk_at X0.out 3 _ rfl
  have r1 := blk_at R0.out 1 _ rfl
  have r2 := blk_at R0.out 2 _ rfl
  go_quiet (fail)
  go_wp2
  go_ret
  exact ⟨rfl, below_drewN HB.out nq⟩

set_option maxHeartbeats 8000000 in
set_option maxRecDepth 100000 in
theorem refholds_no6 (w : World) (h : Nat) (seed : ByteArray) (tn n below : Int) (v : Value) (hb : w.heap[h]? = some (.cells #[.string seed, .int .i64 tn, .int .i64 n, .int .i64 below, v] 67 (0, 0))) (y : Vt) (m : Nat) (hm : m ≤ 9223372036854775807) (bl : Bool) (r : Bool) (hr : r = false) (h0 : ¬ (n < 1)) (h1 : ¬ (7 < n)) (h2 : ¬ (tn < 0)) (h3 : ¬ (n ≤ tn)) (h4 : ¬ (y.s.f < 0)) (h5 : ¬ (n ≤ y.s.f)) (h6 : ¬ (m : Int) = n) : Calls Try.prog 73 #[.pointer (some ⟨h, 0, none⟩), .agg #[.int .i64 y.v, .string y.b, .int .i64 y.s.f, .slice y.s.a m y.s.c, .bool bl]] w fun e w' => e = .returned (.bool r) ∧ RowKit.Below w.heap.size w w' := by
  subst hr
  have HB := Sd.mk (below_one w (.cells #[.int .i64 y.v, .string y.b, .int .i64 y.s.f, .slice y.s.a m y.s.c, .bool bl] 69))
  have X0 := Sd.mk (blk_new w (.cells #[.int .i64 y.v, .string y.b, .int .i64 y.s.f, .slice y.s.a m y.s.c, .bool bl] 69))
  have R0 := Sd.mk (blk_keep hb (below_one w (.cells #[.int .i64 y.v, .string y.b, .int .i64 y.s.f, .slice y.s.a m y.s.c, .bool bl] 69)))
  have d0 : decide (n < 1) = false := decide_eq_false h0
  have d1 : decide (7 < n) = false := decide_eq_false h1
  have d2 : decide (tn < 0) = false := decide_eq_false h2
  have d3 : decide (n ≤ tn) = false := decide_eq_false h3
  have d4 : decide (y.s.f < 0) = false := decide_eq_false h4
  have d5 : decide (n ≤ y.s.f) = false := decide_eq_false h5
  have d6 : ((m : Int) != n) = true := bne_iff_ne.2 h6
  clear hb
  go_enter Try.func73, Try.ntmps73
  go_upto_region 1 with (fail)
  generalize w.heap.size = Bx at X0 ⊢
  generalize w.alloc _ = W1 at X0 R0 HB ⊢
  have c2 := blk_at X0.out 2 _ rfl
  have c3 := blk_at X0.out 3 _ rfl
  have r1 := blk_at R0.out 1 _ rfl
  have r2 := blk_at R0.out 2 _ rfl
  go_quiet (fail)
  go_wp2
  go_ret
  exact ⟨rfl, below_drewN HB.out nq⟩
set_option maxHeartbeats 8000000 in
set_option maxRecDepth 100000 in
theorem refholds_in (w : World) (h : Nat) (seed : ByteArray) (hsd : seed.size ≤ 35184372088832) (t n : Nat) (tI nI : Int) (hti : tI = (t : Int)) (hni : nI = (n : Int)) (below : Int) (v : Value) (hb : w.heap[h]? = some (.cells #[.string seed, .int .i64 tI, .int .i64 nI, .int .i64 below, v] 67 (0, 0))) (y : Vt) (hyb : y.b.size ≤ 50) (m : Nat) (tags : List ByteArray) (hs : Sl Rk.str w y.s.a y.s.c tags) (hm : m = tags.length) (bl : Bool) (n1 : 1 ≤ n) (n7 : n ≤ 7) (tn : t < n) (f0 : 0 ≤ y.s.f) (fn : y.s.f < (n : Int)) (hmn : m = n) (r : Bool) (hr : r = true ↔ all16 tags ∧ tags[t]? = some (mtag seed y.s.f (t : Nat) (vtxt y.v y.b))) : Calls Try.prog 73 #[.pointer (some ⟨h, 0, none⟩), .agg #[.int .i64 y.v, .string y.b, .int .i64 y.s.f, .slice y.s.a m y.s.c, .bool bl]] w fun e w' => e = .returned (.bool r) ∧ RowKit.Below w.heap.size w w' := by
  have mixed : Try.prog.follows .mixedOrders = true := by kernel_rfl
  have HB := Sd.mk (below_one w (.cells #[.int .i64 y.v, .string y.b, .int .i64 y.s.f, .slice y.s.a m y.s.c, .bool bl] 69))
  have X0 := Sd.mk (blk_new w (.cells #[.int .i64 y.v, .string y.b, .int .i64 y.s.f, .slice y.s.a m y.s.c, .bool bl] 69))
  have R0 := Sd.mk (blk_keep hb (below_one w (.cells #[.int .i64 y.v, .string y.b, .int .i64 y.s.f, .slice y.s.a m y.s.c, .bool bl] 69)))
  have HS := Sd.mk (hs.below (below_one w (.cells #[.int .i64 y.v, .string y.b, .int .i64 y.s.f, .slice y.s.a m y.s.c, .bool bl] 69)))
  have HR := Sd.mk hr
  have HM := Sd.mk hm
  have mc := Nat.le_trans hs.le hs.cap
  rw [← hm] at mc
  obtain ⟨tx, htx⟩ : ∃ tx, vtxt y.v y.b = tx := ⟨_, rfl⟩
  rw [htx] at HR
  obtain ⟨u, hu⟩ : ∃ u, mtag seed y.s.f (t : Nat) tx = u := ⟨_, rfl⟩
  rw [hu] at HR
  have HU := Sd.mk hu
  have HTX := Sd.mk htx
  have HTZ := Sd.mk (show tx.size ≤ 35184372088832 by rw [← htx]; unfold vtxt; rw [app_size, app_size, num4_size]; show 1 + 4 + _ ≤ _; omega)
  have HYB := Sd.mk (show y.b.size ≤ 70368744177664 by omega)
  have h0 : ¬ (nI < 1) := by omega
  have d0 : decide (nI < 1) = false := decide_eq_false h0
  have h1 : ¬ (7 < nI) := by omega
  have d1 : decide (7 < nI) = false := decide_eq_false h1
  have h2 : ¬ (tI < 0) := by omega
  have d2 : decide (tI < 0) = false := decide_eq_false h2
  have h3 : ¬ (nI ≤ tI) := by omega
  have d3 : decide (nI ≤ tI) = false := decide_eq_false h3
  have h4 : ¬ (y.s.f < 0) := by omega
  have d4 : decide (y.s.f < 0) = false := decide_eq_false h4
  have h5 : ¬ (nI ≤ y.s.f) := by omega
  have d5 : decide (nI ≤ y.s.f) = false := decide_eq_false h5
  have d6 : ((m : Int) != nI) = false := by rw [bne_eq_false_iff_eq]; omega
  have HTI := Sd.mk hti
  have HNI := Sd.mk hni
  have HFN := Sd.mk (And.intro hmn (And.intro n1 (And.intro n7 (And.intro tn f0))))
  clear hb hs hm hr hu htx hyb hti hni fn hmn n1 n7 tn f0
  go_enter Try.func73, Try.ntmps73
  go_upto_region 1 with (fail)
  generalize w.heap.size = Bx at X0 ⊢
  generalize w.alloc _ = W1 at X0 R0 HB HS ⊢
  have c2 := blk_at X0.out 2 _ rfl
  have c3 := blk_at X0.out 3 _ rfl
  have r1 := blk_at R0.out 1 _ rfl
  have r2 := blk_at R0.out 2 _ rfl
  go_quiet (fail)
  clear c2 c3 r1 r2 d0 d1 d2 d3 d4 d5 d6 h0 h1 h2 h3 h4 h5
  have e1 := HTI.out
  have e2 := HNI.out
  clear HTI HNI
  obtain ⟨hmn, n1, n7, tn, f0⟩ := HFN.out
  subst e1
  subst e2
  have HW0 := Sd.mk (below_drewN (Below.refl W1.heap.size W1) nq)
  generalize W1.drewN nq = W2 at HW0 ⊢
  have r2 := blk_at (blk_keep R0.out HW0.out) 2 _ rfl
  go_wp2
  clear r2
  go_loopg [5] n (fun gk v5 wr => ∃ i, i + gk = n ∧ v5 = .int .i64 (i : Nat) ∧ Sd (∀ z ∈ tags.take i, z.size = 16) ∧ Sd (RowKit.Below W1.heap.size W1 wr))
  case atStart => exact ⟨0, by omega, rfl, ⟨fun z hz => by simp at hz⟩, HW0⟩
  case round =>
    clear HW0
    obtain ⟨i, hi, rfl, HA, HW⟩ := hrel
    have X1 := Sd.mk (blk_keep X0.out HW.out)
    have R1 := Sd.mk (blk_keep R0.out HW.out)
    have r2 := blk_at R1.out 2 _ rfl
    have c3 := blk_at X1.out 3 _ rfl
    by_cases hlt : i < n
    · have hii : (i : Int) < n := by omega
      have htl : i < tags.length := by rw [← HM.out]; omega
      have him : i < m := by omega
      have himi : (i : Int) < (m : Int) := by omega
      obtain ⟨b3, o3, hA3, z0, -⟩ := str_at HS.out.row htl
      obtain ⟨z, hz⟩ : ∃ z, tags[i] = z := ⟨_, rfl⟩
      rw [hz] at z0
      rw [hA3] at c3
      have z0 := cell_below HW.out z0
      have HZ := Sd.mk (show tags[i]? = some z by rw [List.getElem?_eq_getElem htl, hz])
      clear hz htl
      by_cases h16 : z.size = 16
      · have d16 : ((z.size : Int) != 16) = false := by rw [bne_eq_false_iff_eq]; omega
        have HA2 := Sd.mk (show ∀ z' ∈ tags.take (i + 1), z'.size = 16 from fun z' hz' => by
          rw [List.take_add_one, HZ.out] at hz'
          rcases List.mem_append.1 hz' with e | e
          · exact HA.out z' e
          · simp at e; subst e; exact h16)
        clear h16
        go_wp2
        go_roundg (gk - 1)
        case measure => omega
        case rel => exact ⟨i + 1, by omega, by go_num, HA2, HW⟩
      · have d16 : ((z.size : Int) != 16) = true := by rw [bne_iff_ne]; omega
        obtain rfl : r = false := by
          cases r with
          | false => rfl
          | true => exact absurd (by obtain ⟨h1, h2⟩ := List.getElem?_eq_some_iff.1 HZ.out; rw [← h2]; exact (HR.out.1 rfl).1 i h1) h16
        clear h16
        go_wp2
        go_ret
        exact ⟨rfl, below_then HB.out HW.out⟩
    · have hii : decide (i < n) = false := decide_eq_false (by omega)
      have hii2 : decide ((i : Int) < (n : Int)) = false := decide_eq_false (by omega)
      have htl : t < tags.length := by rw [← HM.out]; omega
      have hal : all16 tags := by
        intro j hj
        exact HA.out _ (by rw [List.take_of_length_le (by rw [← HM.out]; omega)]; exact List.getElem_mem hj)
      obtain ⟨b3, o3, hA3, z0, -⟩ := str_at HS.out.row htl
      obtain ⟨z, hz⟩ : ∃ z, tags[t] = z := ⟨_, rfl⟩
      rw [hz] at z0
      rw [hA3] at c3 X1
      have z0 := cell_below HW.out z0
      have HR2 := Sd.mk (show r = (z.toList == u.toList) by
        rw [Bool.eq_iff_iff, HR.out, Rp.str_beq, decide_eq_true_eq, List.getElem?_eq_getElem htl, hz]
        exact ⟨fun h => Option.some.inj h.2, fun h => ⟨hal, by rw [h]⟩⟩)
      have htm : t < m := by omega
      have htmi : (t : Int) < (m : Int) := by omega
      clear HR hal hz htl hA3 c3
      obtain ⟨b2, hb2⟩ : ∃ b, (z.toList == u.toList) = b := ⟨_, rfl⟩
      rw [hb2] at HR2
      obtain rfl : r = b2 := HR2.out
      have HWB := Sd.mk (below_then HB.out HW.out)
      have z0' := fun d os => cell_regrown z0 d os
      have x0 := fun d os => cell_regrown (blk_at X1.out 0 _ rfl) d os
      have x1 := fun d os => cell_regrown (blk_at X1.out 1 _ rfl) d os
      have x2 := fun d os => cell_regrown (blk_at X1.out 2 _ rfl) d os
      have x3 := fun d os => cell_regrown (blk_at X1.out 3 _ rfl) d os
      have s0 := fun d os => cell_regrown (blk_at R1.out 0 _ rfl) d os
      have s1 := fun d os => cell_regrown (blk_at R1.out 1 _ rfl) d os
      go_upto_region 8 with (fail)
      clear z0 r2
      refine wp_region_quiet_below (by assumption) (by kernel_rfl) ?_
      repeat (go_big_quiet_step ((first
        | (go_at_call 24; refine Calls.regrown_of (Crt.reftext_any _ y.v y.b HYB.out tx HTX.out))
        | (go_at_call 52; refine Calls.regrown_of (reftag_any _ seed y.s.f (t : Int) tx hsd HTZ.out u HU.out)))))
      refine wpQuiet_nil ?_
      rintro W9 ⟨⟨nq, osq⟩, rfl⟩
      have HB9 := Sd.mk (below_then HWB.out (below_regrown wr nq osq))
      go_wp2
      go_ret
      exact ⟨rfl, HB9.out⟩
end Go.Proofs.Ytdmdfpbklflijaa.Tal
set_option linter.unusedVariables false
set_option linter.unusedSimpArgs false

namespace Go.Proofs.Ytdmdfpbklflijaa.Tal
open Go.RowKit Go.Sort Rd Api Own Mv App Mk Num Dig Mac

theorem refholds_any (w : World) (h : Nat) (seed : ByteArray) (hsd : seed.size ≤ 35184372088832) (tn n below : Int) (v : Value) (hb : w.heap[h]? = some (.cells #[.string seed, .int .i64 tn, .int .i64 n, .int .i64 below, v] 67 (0, 0))) (y : Vt) (hyb : y.b.size ≤ 50) (tags : List ByteArray) (hs : Sl Rk.str w y.s.a y.s.c tags) (hm : y.s.n = tags.length) (r : Bool) (hr : r = true ↔ holdsF seed tn n (vtxt y.v y.b) y.s.f tags) :
    Calls Try.prog 73 #[.pointer (some ⟨h, 0, none⟩), .agg #[.int .i64 y.v, .string y.b, .int .i64 y.s.f, .slice y.s.a y.s.n y.s.c, .bool false]] w fun e w' => e = .returned (.bool r) ∧ RowKit.Below w.heap.size w w' := by
  have no : ¬ holdsF seed tn n (vtxt y.v y.b) y.s.f tags → r = false := fun hno => by
    cases r with
    | false => rfl
    | true => exact absurd (hr.1 rfl) hno
  have hmc : y.s.n ≤ 9223372036854775807 := by rw [hm]; exact Nat.le_trans hs.le hs.cap
  by_cases h0 : n < 1
  · exact refholds_no0 w h seed tn n below v hb y _ hmc false r (no fun k => by have := k.1; omega) h0
  by_cases h1 : 7 < n
  · exact refholds_no1 w h seed tn n below v hb y _ hmc false r (no fun k => by have := k.1; omega) h0 h1
  by_cases h2 : tn < 0
  · exact refholds_no2 w h seed tn n below v hb y _ hmc false r (no fun k => by have := k.2.1; omega) h0 h1 h2
  by_cases h3 : n ≤ tn
  · exact refholds_no3 w h seed tn n below v hb y _ hmc false r (no fun k => by have := k.2.1; omega) h0 h1 h2 h3
  by_cases h4 : y.s.f < 0
  · exact refholds_no4 w h seed tn n below v hb y _ hmc false r (no fun k => by have := k.2.2.1; omega) h0 h1 h2 h3 h4
  by_cases h5 : n ≤ y.s.f
  · exact refholds_no5 w h seed tn n below v hb y _ hmc false r (no fun k => by have := k.2.2.1; omega) h0 h1 h2 h3 h4 h5
  by_cases h6 : (y.s.n : Int) = n
  · refine refholds_in w h seed hsd tn.toNat n.toNat tn n (by omega) (by omega) below v hb y hyb _ tags hs hm false (by omega) (by omega) (by omega) (by omega) (by omega) (by omega) r (hr.trans ?_)
    unfold holdsF
    rw [Crt.endF_in (show 0 ≤ y.s.f by omega) (by omega), Crt.endF_in (show 0 ≤ tn by omega) (by omega), show ((tn.toNat : Nat) : Int) = tn by omega]
    exact ⟨fun k => ⟨k.2.2.2.2.1, k.2.2.2.2.2⟩, fun k => ⟨by omega, by omega, by omega, by omega, k.1, k.2⟩⟩
  · exact refholds_no6 w h seed tn n below v hb y _ hmc false r (no fun k => by have := k.2.2.2.1; omega) h0 h1 h2 h3 h4 h5 h6
set_option maxHeartbeats 8000000 in
set_option maxRecDepth 100000 in
theorem refadd_no0 (w : World) (h : Nat) (seed : ByteArray) (tn n below : Int) (v : Value) (hb : w.heap[h]? = some (.cells #[.string seed, .int .i64 tn, .int .i64 n, .int .i64 below, v] 67 (0, 0))) (y : Vt)  (h0 : y.v < 1) :
    Calls Try.prog 38 #[.pointer (some ⟨h, 0, none⟩), .agg #[.int .i64 y.v, .string y.b, .int .i64 y.s.f, .slice y.s.a y.s.n y.s.c, .bool false]] w fun e w' => e = .returned (.bool false) ∧ RowKit.Below w.heap.size w w' := by
  have HB := Sd.mk (below_one w (.cells #[.int .i64 y.v, .string y.b, .int .i64 y.s.f, .slice y.s.a y.s.n y.s.c, .bool false] 69))
  have X0 := Sd.mk (blk_new w (.cells #[.int .i64 y.v, .string y.b, .int .i64 y.s.f, .slice y.s.a y.s.n y.s.c, .bool false] 69))
  have R0 := Sd.mk (blk_keep hb (below_one w (.cells #[.int .i64 y.v, .string y.b, .int .i64 y.s.f, .slice y.s.a y.s.n y.s.c, .bool false] 69)))

  have d0 : decide (y.v < 1) = true := decide_eq_true h0
  clear hb
  go_enter Try.func38, Try.ntmps38
  go_upto_region 1 with (fail)
  generalize w.heap.size = Bx at X0 ⊢
  generalize w.alloc _ = W1 at X0 R0 HB ⊢
  have c0 := blk_at X0.out 0 _ rfl
  have c1 := blk_at X0.out 1 _ rfl
  have r3 := blk_at R0.out 3 _ rfl
  go_quiet (fail)
  go_wp2
  go_ret
  exact ⟨rfl, below_drewN HB.out nq⟩

set_option maxHeartbeats 8000000 in
set_option maxRecDepth 100000 in
theorem refadd_no1 (w : World) (h : Nat) (seed : ByteArray) (tn n below : Int) (v : Value) (hb : w.heap[h]? = some (.cells #[.string seed, .int .i64 tn, .int .i64 n, .int .i64 below, v] 67 (0, 0))) (y : Vt) (h0 : ¬ (y.v < 1)) (h1 : 1000000 < y.v) :
    Calls Try.prog 38 #[.pointer (some ⟨h, 0, none⟩), .agg #[.int .i64 y.v, .string y.b, .int .i64 y.s.f, .slice y.s.a y.s.n y.s.c, .bool false]] w fun e w' => e = .returned (.bool false) ∧ RowKit.Below w.heap.size w w' := by
  have HB := Sd.mk (below_one w (.cells #[.int .i64 y.v, .string y.b, .int .i64 y.s.f, .slice y.s.a y.s.n y.s.c, .bool false] 69))
  have X0 := Sd.mk (blk_new w (.cells #[.int .i64 y.v, .string y.b, .int .i64 y.s.f, .slice y.s.a y.s.n y.s.c, .bool false] 69))
  have R0 := Sd.mk (blk_keep hb (below_one w (.cells #[.int .i64 y.v, .string y.b, .int .i64 y.s.f, .slice y.s.a y.s.n y.s.c, .bool false] 69)))
  have d0 : decide (y.v < 1) = false := decide_eq_false h0
  have d1 : decide (1000000 < y.v) = true := decide_eq_true h1
  clear hb
  go_enter Try.func38, Try.ntmps38
  go_upto_region 1 with (fail)
  generalize w.heap.size = Bx at X0 ⊢
  generalize w.alloc _ = W1 at X0 R0 HB ⊢
  have c0 := blk_at X0.out 0 _ rfl
  have c1 := blk_at X0.out 1 _ rfl
  have r3 := blk_at R0.out 3 _ rfl
  go_quiet (fail)
  go_wp2
  go_ret
  exact ⟨rfl, below_drewN HB.out nq⟩

set_option maxHeartbeats 8000000 in
set_option maxRecDepth 100000 in
theorem refadd_no2 (w : World) (h : Nat) (seed : ByteArray) (tn n below : Int) (v : Value) (hb : w.heap[h]? = some (.cells #[.string seed, .int .i64 tn, .int .i64 n, .int .i64 below, v] 67 (0, 0))) (y : Vt) (h0 : ¬ (y.v < 1)) (h1 : ¬ (1000000 < y.v)) (h2 : y.v ≤ below) :
    Calls Try.prog 38 #[.pointer (some ⟨h, 0, none⟩), .agg #[.int .i64 y.v, .string y.b, .int .i64 y.s.f, .slice y.s.a y.s.n y.s.c, .bool false]] w fun e w' => e = .returned (.bool false) ∧ RowKit.Below w.heap.size w w' := by
  have HB := Sd.mk (below_one w (.cells #[.int .i64 y.v, .string y.b, .int .i64 y.s.f, .slice y.s.a y.s.n y.s.c, .bool false] 69))
  have X0 := Sd.mk (blk_new w (.cells #[.int .i64 y.v, .string y.b, .int .i64 y.s.f, .slice y.s.a y.s.n y.s.c, .bool false] 69))
  have R0 := Sd.mk (blk_keep hb (below_one w (.cells #[.int .i64 y.v, .string y.b, .int .i64 y.s.f, .slice y.s.a y.s.n y.s.c, .bool false] 69)))
  have d0 : decide (y.v < 1) = false := decide_eq_false h0
  have d1 : decide (1000000 < y.v) = false := decide_eq_false h1
  have d2 : decide (y.v ≤ below) = true := decide_eq_true h2
  clear hb
  go_enter Try.func38, Try.ntmps38
  go_upto_region 1 with (fail)
  generalize w.heap.size = Bx at X0 ⊢
  generalize w.alloc _ = W1 at X0 R0 HB ⊢
  have c0 := blk_at X0.out 0 _ rfl
  have c1 := blk_at X0.out 1 _ rfl
  have r3 := blk_at R0.out 3 _ rfl
  go_quiet (fail)
  go_wp2
  go_ret
  exact ⟨rfl, below_drewN HB.out nq⟩

set_option maxHeartbeats 8000000 in
set_option maxRecDepth 100000 in
theorem refadd_no3 (w : World) (h : Nat) (seed : ByteArray) (tn n below : Int) (v : Value) (hb : w.heap[h]? = some (.cells #[.string seed, .int .i64 tn, .int .i64 n, .int .i64 below, v] 67 (0, 0))) (y : Vt) (h0 : ¬ (y.v < 1)) (h1 : ¬ (1000000 < y.v)) (h2 : ¬ (y.v ≤ below)) (h3 : ¬ y.b.size = 32) :
    Calls Try.prog 38 #[.pointer (some ⟨h, 0, none⟩), .agg #[.int .i64 y.v, .string y.b, .int .i64 y.s.f, .slice y.s.a y.s.n y.s.c, .bool false]] w fun e w' => e = .returned (.bool false) ∧ RowKit.Below w.heap.size w w' := by
  have HB := Sd.mk (below_one w (.cells #[.int .i64 y.v, .string y.b, .int .i64 y.s.f, .slice y.s.a y.s.n y.s.c, .bool false] 69))
  have X0 := Sd.mk (blk_new w (.cells #[.int .i64 y.v, .string y.b, .int .i64 y.s.f, .slice y.s.a y.s.n y.s.c, .bool false] 69))
  have R0 := Sd.mk (blk_keep hb (below_one w (.cells #[.int .i64 y.v, .string y.b, .int .i64 y.s.f, .slice y.s.a y.s.n y.s.c, .bool false] 69)))
  have d0 : decide (y.v < 1) = false := decide_eq_false h0
  have d1 : decide (1000000 < y.v) = false := decide_eq_false h1
  have d2 : decide (y.v ≤ below) = false := decide_eq_false h2
  have d3 : ((y.b.size : Int) != 32) = true := by rw [bne_iff_ne]; omega
  clear hb
  go_enter Try.func38, Try.ntmps38
  go_upto_region 1 with (fail)
  generalize w.heap.size = Bx at X0 ⊢
  generalize w.alloc _ = W1 at X0 R0 HB ⊢
  have c0 := blk_at X0.out 0 _ rfl
  have c1 := blk_at X0.out 1 _ rfl
  have r3 := blk_at R0.out 3 _ rfl
  go_quiet (fail)
  go_wp2
  go_ret
  exact ⟨rfl, below_drewN HB.out nq⟩
set_option maxHeartbeats 8000000 in
set_option maxRecDepth 100000 in
theorem refadd_no4 (w : World) (h : Nat) (seed : ByteArray) (hsd : seed.size ≤ 35184372088832) (tn n below : Int) (A : Option Addr) (k c : Nat) (hb : w.heap[h]? = some (.cells #[.string seed, .int .i64 tn, .int .i64 n, .int .i64 below, .slice A k c] 67 (0, 0))) (y : Vt) (h0 : ¬ (y.v < 1)) (h1 : ¬ (1000000 < y.v)) (h2 : ¬ (y.v ≤ below)) (h3 : y.b.size = 32) (tags : List ByteArray) (hs : Sl Rk.str w y.s.a y.s.c tags) (hm : y.s.n = tags.length) (hh : ¬ holdsF seed tn n (vtxt y.v y.b) y.s.f tags) :
    Calls Try.prog 38 #[.pointer (some ⟨h, 0, none⟩), .agg #[.int .i64 y.v, .string y.b, .int .i64 y.s.f, .slice y.s.a y.s.n y.s.c, .bool false]] w fun e w' => e = .returned (.bool false) ∧ RowKit.Below w.heap.size w w' := by
  have mixed : Try.prog.follows .mixedOrders = true := by kernel_rfl
  have HB := Sd.mk (below_one w (.cells #[.int .i64 y.v, .string y.b, .int .i64 y.s.f, .slice y.s.a y.s.n y.s.c, .bool false] 69))
  have X0 := Sd.mk (blk_new w (.cells #[.int .i64 y.v, .string y.b, .int .i64 y.s.f, .slice y.s.a y.s.n y.s.c, .bool false] 69))
  have R0 := Sd.mk (blk_keep hb (below_one w (.cells #[.int .i64 y.v, .string y.b, .int .i64 y.s.f, .slice y.s.a y.s.n y.s.c, .bool false] 69)))
  have HH := Sd.mk (fun W2 (hb2 : RowKit.Below (w.alloc (.cells #[.int .i64 y.v, .string y.b, .int .i64 y.s.f, .slice y.s.a y.s.n y.s.c, .bool false] 69)).heap.size (w.alloc (.cells #[.int .i64 y.v, .string y.b, .int .i64 y.s.f, .slice y.s.a y.s.n y.s.c, .bool false] 69)) W2) => refholds_any W2 h seed hsd tn n below (.slice A k c) (blk_keep R0.out hb2) y (by omega) tags ((hs.below (below_one w (.cells #[.int .i64 y.v, .string y.b, .int .i64 y.s.f, .slice y.s.a y.s.n y.s.c, .bool false] 69))).below hb2) hm false ⟨fun e => (by cases e), fun e => absurd e hh⟩)
  have d0 : decide (y.v < 1) = false := decide_eq_false h0
  have d1 : decide (1000000 < y.v) = false := decide_eq_false h1
  have d2 : decide (y.v ≤ below) = false := decide_eq_false h2
  have d3 : ((y.b.size : Int) != 32) = false := by rw [bne_eq_false_iff_eq]; omega
  clear hb hs hm h3 hh
  go_enter Try.func38, Try.ntmps38
  go_upto_region 1 with (fail)
  generalize w.heap.size = Bx at X0 ⊢
  generalize w.alloc _ = W1 at X0 R0 HB HH ⊢
  have c0 := fun d os => cell_regrown (blk_at X0.out 0 _ rfl) d os
  have c1 := fun d os => cell_regrown (blk_at X0.out 1 _ rfl) d os
  have c2 := fun d os => cell_regrown (blk_at X0.out 2 _ rfl) d os
  have c3 := fun d os => cell_regrown (blk_at X0.out 3 _ rfl) d os
  have c4 := fun d os => cell_regrown (blk_at X0.out 4 _ rfl) d os
  have r2 := fun d os => cell_regrown (blk_at R0.out 2 _ rfl) d os
  have r3 := fun d os => cell_regrown (blk_at R0.out 3 _ rfl) d os
  have r4 := fun d os => cell_regrown (blk_at R0.out 4 _ rfl) d os
  refine wp_region_quiet_below (by assumption) (by kernel_rfl) ?_
  repeat (go_big_quiet_step ((go_at_call 73; refine Calls.regrown_of (HH.out _ (below_regrown _ _ _)))))
  refine wpQuiet_nil ?_
  rintro W9 ⟨⟨nq, osq⟩, rfl⟩
  have HB9 := Sd.mk (below_then HB.out (below_regrown W1 nq osq))
  go_wp2
  go_ret
  exact ⟨rfl, HB9.out⟩
set_option maxHeartbeats 8000000 in
set_option maxRecDepth 100000 in
theorem refadd_no5 (w : World) (h : Nat) (seed : ByteArray) (hsd : seed.size ≤ 35184372088832) (tn n below : Int) (A : Option Addr) (k c : Nat) (hb : w.heap[h]? = some (.cells #[.string seed, .int .i64 tn, .int .i64 n, .int .i64 below, .slice A k c] 67 (0, 0))) (y : Vt) (h0 : ¬ (y.v < 1)) (h1 : ¬ (1000000 < y.v)) (h2 : ¬ (y.v ≤ below)) (h3 : y.b.size = 32) (tags : List ByteArray) (hs : Sl Rk.str w y.s.a y.s.c tags) (hm : y.s.n = tags.length) (hh : holdsF seed tn n (vtxt y.v y.b) y.s.f tags) (h5 : wrap64 (4 * n) ≤ (k : Int)) :
    Calls Try.prog 38 #[.pointer (some ⟨h, 0, none⟩), .agg #[.int .i64 y.v, .string y.b, .int .i64 y.s.f, .slice y.s.a y.s.n y.s.c, .bool false]] w fun e w' => e = .returned (.bool false) ∧ RowKit.Below w.heap.size w w' := by
  have mixed : Try.prog.follows .mixedOrders = true := by kernel_rfl
  have HB := Sd.mk (below_one w (.cells #[.int .i64 y.v, .string y.b, .int .i64 y.s.f, .slice y.s.a y.s.n y.s.c, .bool false] 69))
  have X0 := Sd.mk (blk_new w (.cells #[.int .i64 y.v, .string y.b, .int .i64 y.s.f, .slice y.s.a y.s.n y.s.c, .bool false] 69))
  have R0 := Sd.mk (blk_keep hb (below_one w (.cells #[.int .i64 y.v, .string y.b, .int .i64 y.s.f, .slice y.s.a y.s.n y.s.c, .bool false] 69)))
  have HH := Sd.mk (fun W2 (hb2 : RowKit.Below (w.alloc (.cells #[.int .i64 y.v, .string y.b, .int .i64 y.s.f, .slice y.s.a y.s.n y.s.c, .bool false] 69)).heap.size (w.alloc (.cells #[.int .i64 y.v, .string y.b, .int .i64 y.s.f, .slice y.s.a y.s.n y.s.c, .bool false] 69)) W2) => refholds_any W2 h seed hsd tn n below (.slice A k c) (blk_keep R0.out hb2) y (by omega) tags ((hs.below (below_one w (.cells #[.int .i64 y.v, .string y.b, .int .i64 y.s.f, .slice y.s.a y.s.n y.s.c, .bool false] 69))).below hb2) hm true ⟨fun _ => hh, fun _ => rfl⟩)
  have d5 : decide (wrap64 (4 * n) ≤ (k : Int)) = true := decide_eq_true h5
  have d0 : decide (y.v < 1) = false := decide_eq_false h0
  have d1 : decide (1000000 < y.v) = false := decide_eq_false h1
  have d2 : decide (y.v ≤ below) = false := decide_eq_false h2
  have d3 : ((y.b.size : Int) != 32) = false := by rw [bne_eq_false_iff_eq]; omega
  clear hb hs hm h3 hh
  go_enter Try.func38, Try.ntmps38
  go_upto_region 1 with (fail)
  generalize w.heap.size = Bx at X0 ⊢
  generalize w.alloc _ = W1 at X0 R0 HB HH ⊢
  have c0 := fun d os => cell_regrown (blk_at X0.out 0 _ rfl) d os
  have c1 := fun d os => cell_regrown (blk_at X0.out 1 _ rfl) d os
  have c2 := fun d os => cell_regrown (blk_at X0.out 2 _ rfl) d os
  have c3 := fun d os => cell_regrown (blk_at X0.out 3 _ rfl) d os
  have c4 := fun d os => cell_regrown (blk_at X0.out 4 _ rfl) d os
  have r2 := fun d os => cell_regrown (blk_at R0.out 2 _ rfl) d os
  have r3 := fun d os => cell_regrown (blk_at R0.out 3 _ rfl) d os
  have r4 := fun d os => cell_regrown (blk_at R0.out 4 _ rfl) d os
  refine wp_region_quiet_below (by assumption) (by kernel_rfl) ?_
  repeat (go_big_quiet_step ((go_at_call 73; refine Calls.regrown_of (HH.out _ (below_regrown _ _ _)))))
  refine wpQuiet_nil ?_
  rintro W9 ⟨⟨nq, osq⟩, rfl⟩
  have HB9 := Sd.mk (below_then HB.out (below_regrown W1 nq osq))
  go_wp2
  go_ret
  exact ⟨rfl, HB9.out⟩
end Go.Proofs.Ytdmdfpbklflijaa.Tal
