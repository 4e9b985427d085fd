/- Certificates: Holds: walked. -/
import Derived.Test.YtdmdfpbklflijaaCrt
set_option linter.unusedVariables false
set_option linter.unusedSimpArgs false
namespace Go.Proofs.Ytdmdfpbklflijaa.Crt
open Go.RowKit Go.Sort Rd Api Own Mv App Num Dig Mac Rp

/-- a certificate holds -/
def HoldsC (p : Sg.Sig → Bool) (n : Int) (c : Cert) : Prop := RightCert c ∧ if c.view = 0 then c.block = FB ∧ c.sigs = [] else (1 ≤ n ∧ n ≤ 7) ∧ n - (Gat.fl n.toNat : Int) ≤ ((goodF p c.sigs).length : Int)
set_option maxHeartbeats 8000000 in
set_option maxRecDepth 100000 in
theorem holds_0 (w : World) (seed : ByteArray) (tn n : Int) (c : Cert) (A : Option Addr) (k : Nat) (h : Sl sgK w A k c.sigs) (m : Nat) (hm : m = c.sigs.length) (hz : (certB c).size ≤ 9223372036854775807) (hv : c.view = 0) (r : Bool) (hr : r = true ↔ RightCert c ∧ c.block = FB ∧ c.sigs = []) : Calls Try.prog 16 #[.string seed, .int .i64 tn, .int .i64 n, .agg #[.int .i64 c.view, .string c.block, .slice A m k]] w fun e w' => e = .returned (.bool r) ∧ RowKit.Below w.heap.size w w' := by
  have mixed : Try.prog.follows .mixedOrders = true := by kernel_rfl
  obtain ⟨rr, hrr⟩ : ∃ b : Bool, b = true ↔ RightCert c := ⟨@decide (RightCert c) (Classical.propDecidable _), by simp⟩
  have hb0 := below_one w (.cells #[.int .i64 c.view, .string c.block, .slice A m k] 24)
  have HB := Sd.mk hb0
  have X0 := Sd.mk (blk_new w (.cells #[.int .i64 c.view, .string c.block, .slice A m k] 24))
  have HRT := Sd.mk (fun W (hW : RowKit.Below w.heap.size w W) => right_any W c A k (h.below hW) m hm hz rr hrr)
  obtain ⟨d, hd⟩ : ∃ d, FB = d := ⟨_, rfl⟩
  have HD := Sd.mk hd
  have hfc := fun W => field_cert W d
  obtain ⟨b1, hb1⟩ : ∃ b, (c.block.toList == d.toList) = b := ⟨_, rfl⟩
  have HR := Sd.mk (show r = (rr && b1 && (m == 0)) by
    rw [Bool.eq_iff_iff, hr, hd]
    simp only [Bool.and_eq_true, hrr, ← hb1, str_beq, decide_eq_true_eq, beq_iff_eq, and_assoc]
    rw [hm, List.length_eq_zero_iff])
  have mk := Nat.le_trans h.le h.cap
  rw [← hm] at mk
  have hv0 : (c.view == 0) = true := by rw [hv]; rfl
  clear h hm hz hr hrr hb0 hd hv
  go_enter Try.func16, Try.ntmps16
  go_upto_region 1 with (fail)
  generalize w.heap.size = Bx at X0 ⊢
  generalize w.alloc _ = W1 at X0 HB ⊢
  have c0 := blk_at X0.out 0 _ rfl
  go_upto_region 2 with (fail)
  clear c0
  have x0 := fun d os => cell_regrown (blk_at X0.out 0 _ rfl) d os
  have x1 := fun d os => cell_regrown (blk_at X0.out 1 _ rfl) d os
  have x2 := fun d os => cell_regrown (blk_at X0.out 2 _ rfl) d os
  cases rr with
  | false =>
    obtain rfl : r = false := HR.out
    refine wp_region_quiet_below (by assumption) (by kernel_rfl) ?_
    repeat (go_big_quiet_step ((first
      | (go_at_call 49; refine Calls.regrown_of (HRT.out _ (below_then HB.out (below_regrown _ _ _))))
      | (go_at_call 21; refine Calls.regrown_of (first_any _ d HD.out)))))
    refine wpQuiet_nil ?_
    rintro W9 ⟨⟨nq, osq⟩, rfl⟩
    have HB9 := Sd.mk (below_then HB.out (below_regrown W1 nq osq))
    go_wp2
    go_ret
    exact ⟨rfl, HB9.out⟩
  | true =>
    cases b1 with
    | false =>
      obtain rfl : r = false := HR.out
      refine wp_region_quiet_below (by assumption) (by kernel_rfl) ?_
      repeat (go_big_quiet_step ((first
        | (go_at_call 49; refine Calls.regrown_of (HRT.out _ (below_then HB.out (below_regrown _ _ _))))
        | (go_at_call 21; refine Calls.regrown_of (first_any _ d HD.out)))))
      refine wpQuiet_nil ?_
      rintro W9 ⟨⟨nq, osq⟩, rfl⟩
      have HB9 := Sd.mk (below_then HB.out (below_regrown W1 nq osq))
      go_wp2
      go_ret
      exact ⟨rfl, HB9.out⟩
    | true =>
      obtain ⟨b2, hb2⟩ : ∃ b, ((m : Int) == 0) = b := ⟨_, rfl⟩
      have hb3 : (m == 0) = b2 := by rw [← hb2, Bool.eq_iff_iff]; simp
      have HR2 := Sd.mk (show r = b2 by rw [HR.out, hb3]; rfl)
      clear HR
      refine wp_region_quiet_below (by assumption) (by kernel_rfl) ?_
      repeat (go_big_quiet_step ((first
        | (go_at_call 49; refine Calls.regrown_of (HRT.out _ (below_then HB.out (below_regrown _ _ _))))
        | (go_at_call 21; refine Calls.regrown_of (first_any _ d HD.out)))))
      refine wpQuiet_nil ?_
      rintro W9 ⟨⟨nq, osq⟩, rfl⟩
      have HB9 := Sd.mk (below_then HB.out (below_regrown W1 nq osq))
      go_wp2
      go_ret
      exact ⟨by rw [HR2.out]; rfl, HB9.out⟩
set_option maxHeartbeats 8000000 in
set_option maxRecDepth 100000 in
theorem holds_1 (w : World) (seed : ByteArray) (hsd : seed.size ≤ 35184372088832) (tn n : Int) (c : Cert) (A : Option Addr) (k : Nat) (h : Sl sgK w A k c.sigs) (m : Nat) (hm : m = c.sigs.length) (hz : (certB c).size ≤ 9223372036854775807) (p : Sg.Sig → Bool) (hp : Tells seed tn n c p) (hv : c.view ≠ 0) (r : Bool) (hr : r = true ↔ RightCert c ∧ (1 ≤ n ∧ n ≤ 7) ∧ n - (Gat.fl n.toNat : Int) ≤ ((goodF p c.sigs).length : Int)) : Calls Try.prog 16 #[.string seed, .int .i64 tn, .int .i64 n, .agg #[.int .i64 c.view, .string c.block, .slice A m k]] w fun e w' => e = .returned (.bool r) ∧ RowKit.Below w.heap.size w w' := by
  obtain ⟨rr, hrr⟩ : ∃ b : Bool, b = true ↔ RightCert c := ⟨@decide (RightCert c) (Classical.propDecidable _), by simp⟩
  have hb0 := below_one w (.cells #[.int .i64 c.view, .string c.block, .slice A m k] 24)
  have HB := Sd.mk hb0
  have X0 := Sd.mk (blk_new w (.cells #[.int .i64 c.view, .string c.block, .slice A m k] 24))
  have HGD := Sd.mk (fun W (hW : RowKit.Below w.heap.size w W) => good_any W seed hsd tn n c A k (h.below hW) m hm hz p hp rr hrr)
  have hv0 : (c.view == 0) = false := by rw [beq_eq_false_iff_ne]; exact hv
  have HR := Sd.mk hr
  have HRR := Sd.mk hrr
  have HM := Sd.mk hm
  clear h hm hz hr hrr hb0 hp hv
  by_cases hn : 1 ≤ n ∧ n ≤ 7
  · have HN := Sd.mk (fun W => nodes_any W n true (decide_eq_true hn))
    obtain ⟨n', rfl⟩ : ∃ n' : Nat, n = (n' : Int) := ⟨n.toNat, by omega⟩
    obtain ⟨q, hq⟩ : ∃ q, q = n' - Gat.fl n' := ⟨_, rfl⟩
    have hq1 : 1 ≤ q := by have := Gat.fl_lt (n := n') (by omega); omega
    have HQ := Sd.mk (fun W => Gat.quorum_any W n' (by omega) (by omega) q hq)
    obtain ⟨l, hl⟩ : ∃ l, (if rr = true then goodF p c.sigs else []) = l := ⟨_, rfl⟩
    obtain ⟨j, hj⟩ : ∃ j, l.length = j := ⟨_, rfl⟩
    have HJ := Sd.mk hj
    have HL := Sd.mk hl
    obtain ⟨b, hb⟩ : ∃ b, decide ((q : Int) ≤ (j : Int)) = b := ⟨_, rfl⟩
    have hb2 : decide (q ≤ j) = b := by rw [← hb]; simp only [decide_eq_decide]; omega
    have HR2 := Sd.mk (show r = b by
      rw [Bool.eq_iff_iff, HR.out, ← hb, decide_eq_true_eq, ← hj, ← hl]
      have e : ((n' : Int)).toNat = n' := Int.toNat_natCast _
      have hfl := Gat.fl_lt (n := n') (by omega)
      rw [e]
      by_cases hc : RightCert c
      · rw [if_pos (HRR.out.2 hc)]
        exact ⟨fun h => by have := h.2.2; omega, fun h => ⟨hc, hn, by omega⟩⟩
      · rw [if_neg (fun h => hc (HRR.out.1 h))]
        exact ⟨fun h => absurd h.1 hc, fun h => by simp only [List.length_nil] at h; omega⟩)
    clear HR HRR hl hj hq
    go_enter Try.func16, Try.ntmps16
    go_upto_region 1 with (fail)
    generalize w.heap.size = Bx at X0 ⊢
    generalize w.alloc _ = W1 at X0 HB ⊢
    have c0 := blk_at X0.out 0 _ rfl
    have c1 := blk_at X0.out 1 _ rfl
    have c2 := blk_at X0.out 2 _ rfl
    go_wp2_with (first
      | (go_at_call 53; (with_reducible refine (HN.out _).mono ?_); rintro e w2 ⟨rfl, hw2⟩; obtain rfl := hw2.symm)
      | (go_at_call 14; (with_reducible refine (HGD.out _ HB.out).mono ?_); rintro e w3 ⟨v, rfl, ho⟩; rw [HL.out] at ho; obtain ⟨A3, k3, rfl, -⟩ := ho.slice; rw [HJ.out]; have HB3 := Sd.mk (below_then HB.out ho.bel); clear ho)
      | (go_at_call 54; (with_reducible refine (HQ.out _).mono ?_); rintro e w4 ⟨rfl, hw4⟩; obtain rfl := hw4.symm))
    go_ret
    exact ⟨by rw [HR2.out]; rfl, HB3.out⟩
  · have HN := Sd.mk (fun W => nodes_any W n false (decide_eq_false hn))
    obtain rfl : r = false := by
      cases r with
      | false => rfl
      | true => exact absurd (HR.out.1 rfl).2.1 hn
    clear hn HR
    go_enter Try.func16, Try.ntmps16
    go_upto_region 1 with (fail)
    generalize w.heap.size = Bx at X0 ⊢
    generalize w.alloc _ = W1 at X0 HB ⊢
    have c0 := blk_at X0.out 0 _ rfl
    have c1 := blk_at X0.out 1 _ rfl
    have c2 := blk_at X0.out 2 _ rfl
    go_wp2_with (first
      | (go_at_call 53; (with_reducible refine (HN.out _).mono ?_); rintro e w2 ⟨rfl, hw2⟩; obtain rfl := hw2.symm))
    go_ret
    exact ⟨rfl, HB.out⟩
theorem certholds_any (w : World) (seed : ByteArray) (hsd : seed.size ≤ 35184372088832) (tn n : Int) (c : Cert) (A : Option Addr) (k : Nat) (h : Sl sgK w A k c.sigs) (m : Nat) (hm : m = c.sigs.length) (hz : (certB c).size ≤ 9223372036854775807) (p : Sg.Sig → Bool) (hp : Tells seed tn n c p) (r : Bool) (hr : r = true ↔ HoldsC p n c) : Calls Try.prog 16 #[.string seed, .int .i64 tn, .int .i64 n, .agg #[.int .i64 c.view, .string c.block, .slice A m k]] w fun e w' => e = .returned (.bool r) ∧ RowKit.Below w.heap.size w w' := by
  by_cases hv : c.view = 0
  · exact holds_0 w seed tn n c A k h m hm hz hv r (hr.trans (by unfold HoldsC; rw [if_pos hv]))
  · exact holds_1 w seed hsd tn n c A k h m hm hz p hp hv r (hr.trans (by unfold HoldsC; rw [if_neg hv]))
end Go.Proofs.Ytdmdfpbklflijaa.Crt
