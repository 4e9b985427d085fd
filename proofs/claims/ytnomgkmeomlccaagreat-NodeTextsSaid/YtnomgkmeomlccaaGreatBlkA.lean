/- A batch's bytes, a block's core, its digest: the program's and the reference's: walked. -/
import Derived.Test.YtnomgkmeomlccaaGreatBlk
import Derived.BigQuiet
set_option linter.unusedVariables false
set_option linter.unusedSimpArgs false
namespace Go.Proofs.YtnomgkmeomlccaaGreat.Blk
open Go.RowKit Go.Sort Rd Api Own Mv App Num Dig

set_option maxHeartbeats 8000000 in
set_option maxRecDepth 100000 in
theorem wbatch_any (w : World) (A : Option Addr) (c : Nat) (l : List Rq) (h : Sl rqN w A c l) (n : Nat) (hn : n = l.length) (t : ByteArray) (ht : batchB l = t) (hz : t.size ≤ 35184372088832) :
    Calls Tryz.prog 63 #[.slice A n c] w fun e w' => e = .returned (.string t) ∧ RowKit.Below w.heap.size w w' := by
  subst ht
  have HUV := Sd.mk (show batchB l = rqsB (num4 (n : Int)) l by unfold batchB; rw [← hn])
  have HN := Sd.mk hn
  have HS := Sd.mk h
  have HZ := Sd.mk (show (rqsB (num4 (n : Int)) l).size ≤ 35184372088832 by rw [← HUV.out]; exact hz)
  have nc := Nat.le_trans h.le h.cap
  rw [← hn] at nc
  clear h hn hz
  go_enter Tryz.func63, Tryz.ntmps63
  go_upto_region 3 with (first
    | (go_at_call 15; (with_reducible refine (Num.number_any _ _).mono ?_); rintro e w1 ⟨rfl, hb⟩; have HB1 := Sd.mk hb; clear hb))
  go_loopg [3, 5, 11] n (fun gk v3 v5 v11 wr => ∃ i, i + gk = n ∧ v3 = .string (rqsB (num4 (n : Int)) (l.take i)) ∧ v11 = .int .i64 (i : Nat) ∧ Sd (RowKit.Below w.heap.size w wr))
  case atStart => exact ⟨0, by omega, rfl, rfl, HB1⟩
  case round =>
    clear HB1
    obtain ⟨i, hi, rfl, rfl, HB⟩ := hrel
    by_cases hlt : i < n
    · have hii : (i : Int) < n := by omega
      obtain ⟨y, hy⟩ : ∃ y, l[i]? = some y := ⟨l[i]'(by rw [← HN.out]; exact hlt), List.getElem?_eq_getElem _⟩
      obtain ⟨b1, o1, rfl, p0, p1, p2⟩ := rq_at HS.out.row hy
      have q0 := cell_below HB.out p0
      have q1 := cell_below HB.out p1
      have q2 := cell_below HB.out p2
      have HT := Sd.mk (rqsB_take (b := num4 (n : Int)) hy)
      have hpre := rqsB_pre (num4 (n : Int)) l (i + 1)
      rw [HT.out, Rp.app_size] at hpre
      have hyb : y.b.size ≤ 35184372088832 := by have := HZ.out; rw [rqB_size] at hpre; omega
      obtain ⟨u, hu⟩ : ∃ u, rqB y = u := ⟨_, rfl⟩
      obtain ⟨z, hz⟩ : ∃ z, rqsB (num4 (n : Int)) (l.take i) = z := ⟨_, rfl⟩
      rw [hz, hu] at hpre HT
      rw [hz]
      have hc2 : ¬9223372036854775807 < z.size + u.size := by have := HZ.out; omega
      have HRQ := Sd.mk (fun W => Wtx.req_any W y.c y.s y.b hyb u hu)
      clear hy hu hz hpre p0 p1 p2 hyb
      go_wp2_with (first
        | (go_at_call 16; (with_reducible refine (HRQ.out _).mono ?_); rintro e w2 ⟨rfl, hb⟩; have HB2 := Sd.mk (below_then (below_then HB.out (below_one _ _)) hb); clear hb))
      go_roundg (gk - 1)
      case measure => omega
      case rel => exact ⟨i + 1, by omega, by rw [HT.out], by go_num, HB2⟩
    · have hii : decide (i < n) = false := decide_eq_false (by omega)
      have HE := Sd.mk (show rqsB (num4 (n : Int)) (l.take i) = batchB l by rw [HUV.out, List.take_of_length_le (by rw [← HN.out]; omega)])
      rw [HE.out]
      go_wp2
      go_ret
      exact ⟨rfl, HB.out⟩
set_option maxHeartbeats 8000000 in
set_option maxRecDepth 100000 in
theorem rbatch_any (w : World) (A : Option Addr) (c : Nat) (l : List Rq) (h : Sl rqN w A c l) (n : Nat) (hn : n = l.length) (t : ByteArray) (ht : batchB l = t) (hz : t.size ≤ 35184372088832) :
    Calls Tryz.prog 66 #[.slice A n c] w fun e w' => e = .returned (.string t) ∧ RowKit.Below w.heap.size w w' := by
  subst ht
  have HUV := Sd.mk (show batchB l = rqsB (num4 (n : Int)) l by unfold batchB; rw [← hn])
  have HN := Sd.mk hn
  have HS := Sd.mk h
  have HZ := Sd.mk (show (rqsB (num4 (n : Int)) l).size ≤ 35184372088832 by rw [← HUV.out]; exact hz)
  have nc := Nat.le_trans h.le h.cap
  rw [← hn] at nc
  clear h hn hz
  go_enter Tryz.func66, Tryz.ntmps66
  go_upto_region 3 with (first
    | (go_at_call 18; (with_reducible refine (Num.ref_number_any _ _).mono ?_); rintro e w1 ⟨rfl, hb⟩; have HB1 := Sd.mk hb; clear hb))
  go_loopg [3, 4] n (fun gk v3 v4 wr => ∃ i, i + gk = n ∧ v3 = .string (rqsB (num4 (n : Int)) (l.take i)) ∧ v4 = .int .i64 (i : Nat) ∧ Sd (RowKit.Below w.heap.size w wr))
  case atStart => exact ⟨0, by omega, rfl, rfl, HB1⟩
  case round =>
    clear HB1
    obtain ⟨i, hi, rfl, rfl, HB⟩ := hrel
    by_cases hlt : i < n
    · have hii : (i : Int) < n := by omega
      obtain ⟨y, hy⟩ : ∃ y, l[i]? = some y := ⟨l[i]'(by rw [← HN.out]; exact hlt), List.getElem?_eq_getElem _⟩
      obtain ⟨b1, o1, rfl, p0, p1, p2⟩ := rq_at HS.out.row hy
      have q0 := cell_below HB.out p0
      have q1 := cell_below HB.out p1
      have q2 := cell_below HB.out p2
      have HT := Sd.mk (rqsB_take (b := num4 (n : Int)) hy)
      have hpre := rqsB_pre (num4 (n : Int)) l (i + 1)
      rw [HT.out, Rp.app_size] at hpre
      have hyb : y.b.size ≤ 35184372088832 := by have := HZ.out; rw [rqB_size] at hpre; omega
      obtain ⟨u, hu⟩ : ∃ u, rqB y = u := ⟨_, rfl⟩
      obtain ⟨z, hz⟩ : ∃ z, rqsB (num4 (n : Int)) (l.take i) = z := ⟨_, rfl⟩
      rw [hz, hu] at hpre HT
      rw [hz]
      have hc2 : ¬9223372036854775807 < z.size + u.size := by have := HZ.out; omega
      have HRQ := Sd.mk (fun W => Wtx.ref_req_any W y.c y.s y.b hyb u hu)
      clear hy hu hz hpre p0 p1 p2 hyb
      go_wp2_with (first
        | (go_at_call 19; (with_reducible refine (HRQ.out _).mono ?_); rintro e w2 ⟨rfl, hb⟩; have HB2 := Sd.mk (below_then HB.out hb); clear hb))
      go_roundg (gk - 1)
      case measure => omega
      case rel => exact ⟨i + 1, by omega, by rw [HT.out], by go_num, HB2⟩
    · have hii : decide (i < n) = false := decide_eq_false (by omega)
      have HE := Sd.mk (show rqsB (num4 (n : Int)) (l.take i) = batchB l by rw [HUV.out, List.take_of_length_le (by rw [← HN.out]; omega)])
      rw [HE.out]
      go_wp2
      go_ret
      exact ⟨rfl, HB.out⟩
set_option maxHeartbeats 8000000 in
set_option maxRecDepth 100000 in
theorem wcore_any (w : World) (x : Block) (A : Option Addr) (n c : Nat) (B : Option Addr) (m d : Nat) (hs : Sl rqN w B d x.batch) (hm : m = x.batch.length) (t : ByteArray) (ht : coreB x = t) (hz : t.size ≤ 35184372088832) : Calls Tryz.prog 38 #[.agg #[.int .i64 x.view, .int .i64 x.prop, .int .i64 x.just.view, .string x.just.block, .slice A n c, .slice B m d]] w fun e w' => e = .returned (.string t) ∧ RowKit.Below w.heap.size w w' := by
  (have mixed : Tryz.prog.follows .mixedOrders = true := (by kernel_rfl); obtain ⟨n1, hn1⟩ : ∃ z, num4 x.view = z := ⟨_, rfl⟩; obtain ⟨n2, hn2⟩ : ∃ z, num4 x.prop = z := ⟨_, rfl⟩; obtain ⟨n3, hn3⟩ : ∃ z, num4 x.just.view = z := ⟨_, rfl⟩; obtain ⟨bt, hbt⟩ : ∃ z, batchB x.batch = z := ⟨_, rfl⟩; have ht2 : n1 ++ n2 ++ n3 ++ x.just.block ++ bt = t := (by rw [← ht, ← hn1, ← hn2, ← hn3, ← hbt]; rfl); have hsz : n1.size + n2.size + n3.size + x.just.block.size + bt.size = t.size := (by rw [← ht2, Rp.app_size, Rp.app_size, Rp.app_size, Rp.app_size]); have HT := Sd.mk ht2; have g1 : ¬9223372036854775807 < n1.size + n2.size := (by omega); have g2 : ¬9223372036854775807 < n1.size + n2.size + n3.size := (by omega); have g3 : ¬9223372036854775807 < n1.size + n2.size + n3.size + x.just.block.size := (by omega); have g4 : ¬9223372036854775807 < n1.size + n2.size + n3.size + x.just.block.size + bt.size := (by omega); have H1 := Sd.mk hn1; have H2 := Sd.mk hn2; have H3 := Sd.mk hn3; have HB0 := Sd.mk (below_one w (.cells #[.int .i64 x.view, .int .i64 x.prop, .int .i64 x.just.view, .string x.just.block, .slice A n c, .slice B m d] 27)); have X0 := Sd.mk (blk_new w (.cells #[.int .i64 x.view, .int .i64 x.prop, .int .i64 x.just.view, .string x.just.block, .slice A n c, .slice B m d] 27)); have HBT := Sd.mk (fun W (hb : RowKit.Below (w.alloc (.cells #[.int .i64 x.view, .int .i64 x.prop, .int .i64 x.just.view, .string x.just.block, .slice A n c, .slice B m d] 27)).heap.size (w.alloc (.cells #[.int .i64 x.view, .int .i64 x.prop, .int .i64 x.just.view, .string x.just.block, .slice A n c, .slice B m d] 27)) W) => wbatch_any W B d x.batch ((hs.below (below_one w (.cells #[.int .i64 x.view, .int .i64 x.prop, .int .i64 x.just.view, .string x.just.block, .slice A n c, .slice B m d] 27))).below hb) m hm bt hbt (by omega)); clear hn1 hn2 hn3 hbt ht ht2 hsz hs hm hz)
  go_enter Tryz.func38, Tryz.ntmps38
  go_upto_region 1 with (fail)
  generalize hBx : w.heap.size = Bx at X0 ⊢
  generalize w.alloc _ = W1 at HB0 X0 HBT ⊢
  have c0 := fun d os => cell_regrown (blk_at X0.out 0 _ rfl) d os
  have c1 := fun d os => cell_regrown (blk_at X0.out 1 _ rfl) d os
  have c2 := fun d os => cell_regrown (blk_at X0.out 2 _ rfl) d os
  have c3 := fun d os => cell_regrown (blk_at X0.out 3 _ rfl) d os
  have c5 := fun d os => cell_regrown (blk_at X0.out 5 _ rfl) d os
  refine wp_region_quiet_below (by assumption) (by kernel_rfl) ?_
  repeat (go_big_quiet_step ((first | (go_at_call 15; with_reducible refine Calls.regrown_of (Wtx.number_eq _ x.view n1 H1.out)) | (go_at_call 15; with_reducible refine Calls.regrown_of (Wtx.number_eq _ x.prop n2 H2.out)) | (go_at_call 15; with_reducible refine Calls.regrown_of (Wtx.number_eq _ x.just.view n3 H3.out)) | (go_at_call 63; refine Calls.regrown_of (HBT.out _ (below_regrown _ _ _))))))
  refine wpQuiet_nil ?_
  rintro W9 ⟨⟨nq, osq⟩, rfl⟩
  have HB9 := Sd.mk (below_then HB0.out (below_regrown W1 nq osq))
  go_wp2
  go_ret
  exact ⟨by rw [HT.out]; rfl, by have h := HB9.out; first | exact h | rwa [hBx] at h⟩
set_option maxHeartbeats 8000000 in
set_option maxRecDepth 100000 in
theorem rcore_any (w : World) (x : Block) (A : Option Addr) (n c : Nat) (B : Option Addr) (m d : Nat) (hs : Sl rqN w B d x.batch) (hm : m = x.batch.length) (t : ByteArray) (ht : coreB x = t) (hz : t.size ≤ 35184372088832) : Calls Tryz.prog 41 #[.agg #[.int .i64 x.view, .int .i64 x.prop, .int .i64 x.just.view, .string x.just.block, .slice A n c, .slice B m d]] w fun e w' => e = .returned (.string t) ∧ RowKit.Below w.heap.size w w' := by
  (have mixed : Tryz.prog.follows .mixedOrders = true := (by kernel_rfl); obtain ⟨n1, hn1⟩ : ∃ z, num4 x.view = z := ⟨_, rfl⟩; obtain ⟨n2, hn2⟩ : ∃ z, num4 x.prop = z := ⟨_, rfl⟩; obtain ⟨n3, hn3⟩ : ∃ z, num4 x.just.view = z := ⟨_, rfl⟩; obtain ⟨bt, hbt⟩ : ∃ z, batchB x.batch = z := ⟨_, rfl⟩; have ht2 : n1 ++ n2 ++ n3 ++ x.just.block ++ bt = t := (by rw [← ht, ← hn1, ← hn2, ← hn3, ← hbt]; rfl); have hsz : n1.size + n2.size + n3.size + x.just.block.size + bt.size = t.size := (by rw [← ht2, Rp.app_size, Rp.app_size, Rp.app_size, Rp.app_size]); have HT := Sd.mk ht2; have g1 : ¬9223372036854775807 < n1.size + n2.size := (by omega); have g2 : ¬9223372036854775807 < n1.size + n2.size + n3.size := (by omega); have g3 : ¬9223372036854775807 < n1.size + n2.size + n3.size + x.just.block.size := (by omega); have g4 : ¬9223372036854775807 < n1.size + n2.size + n3.size + x.just.block.size + bt.size := (by omega); have H1 := Sd.mk hn1; have H2 := Sd.mk hn2; have H3 := Sd.mk hn3; have HB0 := Sd.mk (below_one w (.cells #[.int .i64 x.view, .int .i64 x.prop, .int .i64 x.just.view, .string x.just.block, .slice A n c, .slice B m d] 27)); have X0 := Sd.mk (blk_new w (.cells #[.int .i64 x.view, .int .i64 x.prop, .int .i64 x.just.view, .string x.just.block, .slice A n c, .slice B m d] 27)); have HBT := Sd.mk (fun W (hb : RowKit.Below (w.alloc (.cells #[.int .i64 x.view, .int .i64 x.prop, .int .i64 x.just.view, .string x.just.block, .slice A n c, .slice B m d] 27)).heap.size (w.alloc (.cells #[.int .i64 x.view, .int .i64 x.prop, .int .i64 x.just.view, .string x.just.block, .slice A n c, .slice B m d] 27)) W) => rbatch_any W B d x.batch ((hs.below (below_one w (.cells #[.int .i64 x.view, .int .i64 x.prop, .int .i64 x.just.view, .string x.just.block, .slice A n c, .slice B m d] 27))).below hb) m hm bt hbt (by omega)); clear hn1 hn2 hn3 hbt ht ht2 hsz hs hm hz)
  go_enter Tryz.func41, Tryz.ntmps41
  go_upto_region 1 with (fail)
  generalize hBx : w.heap.size = Bx at X0 ⊢
  generalize w.alloc _ = W1 at HB0 X0 HBT ⊢
  have c0 := fun d os => cell_regrown (blk_at X0.out 0 _ rfl) d os
  have c1 := fun d os => cell_regrown (blk_at X0.out 1 _ rfl) d os
  have c2 := fun d os => cell_regrown (blk_at X0.out 2 _ rfl) d os
  have c3 := fun d os => cell_regrown (blk_at X0.out 3 _ rfl) d os
  have c5 := fun d os => cell_regrown (blk_at X0.out 5 _ rfl) d os
  refine wp_region_quiet_below (by assumption) (by kernel_rfl) ?_
  repeat (go_big_quiet_step ((first | (go_at_call 18; with_reducible refine Calls.regrown_of (Wtx.ref_number_eq _ x.view n1 H1.out)) | (go_at_call 18; with_reducible refine Calls.regrown_of (Wtx.ref_number_eq _ x.prop n2 H2.out)) | (go_at_call 18; with_reducible refine Calls.regrown_of (Wtx.ref_number_eq _ x.just.view n3 H3.out)) | (go_at_call 66; refine Calls.regrown_of (HBT.out _ (below_regrown _ _ _))))))
  refine wpQuiet_nil ?_
  rintro W9 ⟨⟨nq, osq⟩, rfl⟩
  have HB9 := Sd.mk (below_then HB0.out (below_regrown W1 nq osq))
  go_wp2
  go_ret
  exact ⟨by rw [HT.out]; rfl, by have h := HB9.out; first | exact h | rwa [hBx] at h⟩
def BB : ByteArray := { data := #[66] }
def digB (x : Block) : ByteArray := sum (BB ++ coreB x)
theorem digB_size (x : Block) : (digB x).size = 32 := sum_size _
set_option maxHeartbeats 8000000 in
set_option maxRecDepth 100000 in
theorem dig_any (w : World) (x : Block) (A : Option Addr) (n c : Nat) (B : Option Addr) (m d : Nat) (hs : Sl rqN w B d x.batch) (hm : m = x.batch.length) (t : ByteArray) (ht : digB x = t) (hz : (coreB x).size ≤ 1000000) : Calls Tryz.prog 14 #[.agg #[.int .i64 x.view, .int .i64 x.prop, .int .i64 x.just.view, .string x.just.block, .slice A n c, .slice B m d]] w fun e w' => e = .returned (.string t) ∧ RowKit.Below w.heap.size w w' := by
  obtain ⟨u, hu⟩ : ∃ u, coreB x = u := ⟨_, rfl⟩
  have hb0 := below_one w (.cells #[.int .i64 x.view, .int .i64 x.prop, .int .i64 x.just.view, .string x.just.block, .slice A n c, .slice B m d] 27)
  have HC := Sd.mk (wcore_any (w.alloc (.cells #[.int .i64 x.view, .int .i64 x.prop, .int .i64 x.just.view, .string x.just.block, .slice A n c, .slice B m d] 27)) x A n c B m d (hs.below hb0) hm u hu (by rw [← hu]; omega))
  have HB0 := Sd.mk hb0
  have X0 := Sd.mk (blk_new w (.cells #[.int .i64 x.view, .int .i64 x.prop, .int .i64 x.just.view, .string x.just.block, .slice A n c, .slice B m d] 27))
  rw [hu] at hz
  have HS := Sd.mk (fun W => show Calls Tryz.prog 37 #[.string (BB ++ u)] W fun e w' => e = .returned (.string t) ∧ RowKit.Below W.heap.size W w' from (by have := blake_sum_any W (BB ++ u) (by rw [Rp.app_size]; show BB.size + u.size ≤ _; have : BB.size = 1 := rfl; omega); rwa [show sum (BB ++ u) = t by rw [← ht, ← hu]; rfl] at this))
  have hcat : ¬9223372036854775807 < (1 : Nat) + u.size := by omega
  have hcat2 : ¬9223372036854775807 < ({ data := #[66] } : ByteArray).size + u.size := by show ¬ _ < 1 + u.size; omega
  clear hu ht hs hm hb0 hz
  go_enter Tryz.func14, Tryz.ntmps14
  go_upto_region 1 with (fail)
  generalize hBx : w.heap.size = Bx at X0 ⊢
  generalize w.alloc _ = W1 at HB0 X0 HC ⊢
  have c0 := blk_at X0.out 0 _ rfl
  have c1 := blk_at X0.out 1 _ rfl
  have c2 := blk_at X0.out 2 _ rfl
  have c3 := blk_at X0.out 3 _ rfl
  have c4 := blk_at X0.out 4 _ rfl
  have c5 := blk_at X0.out 5 _ rfl
  go_wp2_with (first
    | (go_at_call 38; (with_reducible refine HC.out.mono ?_); rintro e w2 ⟨rfl, hb⟩; have HB2 := Sd.mk (below_then HB0.out hb); clear hb)
    | (go_at_call 37; (refine (HS.out _).mono ?_); rintro e w3 ⟨rfl, hb⟩; have HB3 := Sd.mk (below_then HB2.out hb); clear hb))
  go_ret
  exact ⟨rfl, by have h := HB3.out; first | exact h | rwa [hBx] at h⟩
set_option maxHeartbeats 8000000 in
set_option maxRecDepth 100000 in
theorem rdig_any (w : World) (x : Block) (A : Option Addr) (n c : Nat) (B : Option Addr) (m d : Nat) (hs : Sl rqN w B d x.batch) (hm : m = x.batch.length) (t : ByteArray) (ht : digB x = t) (hz : (coreB x).size ≤ 1000000) : Calls Tryz.prog 17 #[.agg #[.int .i64 x.view, .int .i64 x.prop, .int .i64 x.just.view, .string x.just.block, .slice A n c, .slice B m d]] w fun e w' => e = .returned (.string t) ∧ RowKit.Below w.heap.size w w' := by
  obtain ⟨u, hu⟩ : ∃ u, coreB x = u := ⟨_, rfl⟩
  have hb0 := below_one w (.cells #[.int .i64 x.view, .int .i64 x.prop, .int .i64 x.just.view, .string x.just.block, .slice A n c, .slice B m d] 27)
  have HC := Sd.mk (rcore_any (w.alloc (.cells #[.int .i64 x.view, .int .i64 x.prop, .int .i64 x.just.view, .string x.just.block, .slice A n c, .slice B m d] 27)) x A n c B m d (hs.below hb0) hm u hu (by rw [← hu]; omega))
  have HB0 := Sd.mk hb0
  have X0 := Sd.mk (blk_new w (.cells #[.int .i64 x.view, .int .i64 x.prop, .int .i64 x.just.view, .string x.just.block, .slice A n c, .slice B m d] 27))
  rw [hu] at hz
  have HS := Sd.mk (fun W => show Calls Tryz.prog 40 #[.string { data := #[] }, .string (BB ++ u)] W fun e w' => e = .returned (.string t) ∧ RowKit.Below W.heap.size W w' from (by have := ref0_any W (BB ++ u) (by rw [Rp.app_size]; show BB.size + u.size ≤ _; have : BB.size = 1 := rfl; omega); rwa [show sum (BB ++ u) = t by rw [← ht, ← hu]; rfl] at this))
  have hcat : ¬9223372036854775807 < (1 : Nat) + u.size := by omega
  have hcat2 : ¬9223372036854775807 < ({ data := #[66] } : ByteArray).size + u.size := by show ¬ _ < 1 + u.size; omega
  clear hu ht hs hm hb0 hz
  go_enter Tryz.func17, Tryz.ntmps17
  go_upto_region 1 with (fail)
  generalize hBx : w.heap.size = Bx at X0 ⊢
  generalize w.alloc _ = W1 at HB0 X0 HC ⊢
  have c0 := blk_at X0.out 0 _ rfl
  have c1 := blk_at X0.out 1 _ rfl
  have c2 := blk_at X0.out 2 _ rfl
  have c3 := blk_at X0.out 3 _ rfl
  have c4 := blk_at X0.out 4 _ rfl
  have c5 := blk_at X0.out 5 _ rfl
  go_wp2_with (first
    | (go_at_call 41; (with_reducible refine HC.out.mono ?_); rintro e w2 ⟨rfl, hb⟩; have HB2 := Sd.mk (below_then HB0.out hb); clear hb)
    | (go_at_call 40; (refine (HS.out _).mono ?_); rintro e w3 ⟨rfl, hb⟩; have HB3 := Sd.mk (below_then HB2.out hb); clear hb))
  go_ret
  exact ⟨rfl, by have h := HB3.out; first | exact h | rwa [hBx] at h⟩
end Go.Proofs.YtnomgkmeomlccaaGreat.Blk
