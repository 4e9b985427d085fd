/- Certificates: Holds: walked. Certificates: the reference's Text, First, Good: walked. Certificates: the reference's Holds; what is of a size that is looked at; what a program that does nothing does not answer: walked. -/
import Derived.Test.YtdmdfpbklflijaaCrt
import Derived.Test.YtdmdfpbklflijaaRefR
set_option linter.unusedVariables false
set_option linter.unusedSimpArgs false
namespace Go.Proofs.Ytdmdfpbklflijaa.Crt
open Go.RowKit Go.Sort Rd Api Own Mv App Num Dig Mac Rp

/-- a certificate holds -/
def HoldsC (p : Sg.Sig → Bool) (n : Int) (c : Cert) : Prop := RightCert c ∧ if c.view = 0 then c.block = FB ∧ c.sigs = [] else (1 ≤ n ∧ n ≤ 7) ∧ n - (Gat.fl n.toNat : Int) ≤ ((goodF p c.sigs).length : Int)
set_option maxHeartbeats 8000000 in
set_option maxRecDepth 100000 in
theorem holds_0 (w : World) (seed : ByteArray) (tn n : Int) (c : Cert) (A : Option Addr) (k : Nat) (h : Sl sgK w A k c.sigs) (m : Nat) (hm : m = c.sigs.length) (hz : (certB c).size ≤ 9223372036854775807) (hv : c.view = 0) (r : Bool) (hr : r = true ↔ RightCert c ∧ c.block = FB ∧ c.sigs = []) : Calls Try.prog 16 #[.string seed, .int .i64 tn, .int .i64 n, .agg #[.int .i64 c.view, .string c.block, .slice A m k]] w fun e w' => e = .returned (.bool r) ∧ RowKit.Below w.heap.size w w' := by
  have mixed : Try.prog.follows .mixedOrders = true := by kernel_rfl
  obtain ⟨rr, hrr⟩ : ∃ b : Bool, b = true ↔ RightCert c := ⟨@decide (RightCert c) (Classical.propDecidable _), by simp⟩
  have hb0 := below_one w (.cells #[.int .i64 c.view, .string c.block, .slice A m k] 24)
  have HB := Sd.mk hb0
  have X0 := Sd.mk (blk_new w (.cells #[.int .i64 c.view, .string c.block, .slice A m k] 24))
  have HRT := Sd.mk (fun W (hW : RowKit.Below w.heap.size w W) => right_any W c A k (h.below hW) m hm hz rr hrr)
  obtain ⟨d, hd⟩ : ∃ d, FB = d := ⟨_, rfl⟩
  have HD := Sd.mk hd
  have hfc := fun W => field_cert W d
  obtain ⟨b1, hb1⟩ : ∃ b, (c.block.toList == d.toList) = b := ⟨_, rfl⟩
  have HR := Sd.mk (show r = (rr && b1 && (m == 0)) by
    rw [Bool.eq_iff_iff, hr, hd]
    simp only [Bool.and_eq_true, hrr, ← hb1, str_beq, decide_eq_true_eq, beq_iff_eq, and_assoc]
    rw [hm, List.length_eq_zero_iff])
  have mk := Nat.le_trans h.le h.cap
  rw [← hm] at mk
  have hv0 : (c.view == 0) = true := by rw [hv]; rfl
  clear h hm hz hr hrr hb0 hd hv
  go_enter Try.func16, Try.ntmps16
  go_upto_region 1 with (fail)
  generalize w.heap.size = Bx at X0 ⊢
  generalize w.alloc _ = W1 at X0 HB ⊢
  have c0 := blk_at X0.out 0 _ rfl
  go_upto_region 2 with (fail)
  clear c0
  have x0 := fun d os => cell_regrown (blk_at X0.out 0 _ rfl) d os
  have x1 := fun d os => cell_regrown (blk_at X0.out 1 _ rfl) d os
  have x2 := fun d os => cell_regrown (blk_at X0.out 2 _ rfl) d os
  cases rr with
  | false =>
    obtain rfl : r = false := HR.out
    refine wp_region_quiet_below (by assumption) (by kernel_rfl) ?_
    repeat (go_big_quiet_step ((first
      | (go_at_call 49; refine Calls.regrown_of (HRT.out _ (below_then HB.out (below_regrown _ _ _))))
      | (go_at_call 21; refine Calls.regrown_of (first_any _ d HD.out)))))
    refine wpQuiet_nil ?_
    rintro W9 ⟨⟨nq, osq⟩, rfl⟩
    have HB9 := Sd.mk (below_then HB.out (below_regrown W1 nq osq))
    go_wp2
    go_ret
    exact ⟨rfl, HB9.out⟩
  | true =>
    cases b1 with
    | false =>
      obtain rfl : r = false := HR.out
      refine wp_region_quiet_below (by assumption) (by kernel_rfl) ?_
      repeat (go_big_quiet_step ((first
        | (go_at_call 49; refine Calls.regrown_of (HRT.out _ (below_then HB.out (below_regrown _ _ _))))
        | (go_at_call 21; refine Calls.regrown_of (first_any _ d HD.out)))))
      refine wpQuiet_nil ?_
      rintro W9 ⟨⟨nq, osq⟩, rfl⟩
      have HB9 := Sd.mk (below_then HB.out (below_regrown W1 nq osq))
      go_wp2
      go_ret
      exact ⟨rfl, HB9.out⟩
    | true =>
      obtain ⟨b2, hb2⟩ : ∃ b, ((m : Int) == 0) = b := ⟨_, rfl⟩
      have hb3 : (m == 0) = b2 := by rw [← hb2, Bool.eq_iff_iff]; simp
      have HR2 := Sd.mk (show r = b2 by rw [HR.out, hb3]; rfl)
      clear HR
      refine wp_region_quiet_below (by assumption) (by kernel_rfl) ?_
      repeat (go_big_quiet_step ((first
        | (go_at_call 49; refine Calls.regrown_of (HRT.out _ (below_then HB.out (below_regrown _ _ _))))
        | (go_at_call 21; refine Calls.regrown_of (first_any _ d HD.out)))))
      refine wpQuiet_nil ?_
      rintro W9 ⟨⟨nq, osq⟩, rfl⟩
      have HB9 := Sd.mk (below_then HB.out (below_regrown W1 nq osq))
      go_wp2
      go_ret
      exact ⟨by rw [HR2.out]; rfl, HB9.out⟩
set_option maxHeartbeats 8000000 in
set_option maxRecDepth 100000 in
theorem holds_1 (w : World) (seed : ByteArray) (hsd : seed.size ≤ 35184372088832) (tn n : Int) (c : Cert) (A : Option Addr) (k : Nat) (h : Sl sgK w A k c.sigs) (m : Nat) (hm : m = c.sigs.length) (hz : (certB c).size ≤ 9223372036854775807) (p : Sg.Sig → Bool) (hp : Tells seed tn n c p) (hv : c.view ≠ 0) (r : Bool) (hr : r = true ↔ RightCert c ∧ (1 ≤ n ∧ n ≤ 7) ∧ n - (Gat.fl n.toNat : Int) ≤ ((goodF p c.sigs).length : Int)) : Calls Try.prog 16 #[.string seed, .int .i64 tn, .int .i64 n, .agg #[.int .i64 c.view, .string c.block, .slice A m k]] w fun e w' => e = .returned (.bool r) ∧ RowKit.Below w.heap.size w w' := by
  obtain ⟨rr, hrr⟩ : ∃ b : Bool, b = true ↔ RightCert c := ⟨@decide (RightCert c) (Classical.propDecidable _), by simp⟩
  have hb0 := below_one w (.cells #[.int .i64 c.view, .string c.block, .slice A m k] 24)
  have HB := Sd.mk hb0
  have X0 := Sd.mk (blk_new w (.cells #[.int .i64 c.view, .string c.block, .slice A m k] 24))
  have HGD := Sd.mk (fun W (hW : RowKit.Below w.heap.size w W) => good_any W seed hsd tn n c A k (h.below hW) m hm hz p hp rr hrr)
  have hv0 : (c.view == 0) = false := by rw [beq_eq_false_iff_ne]; exact hv
  have HR := Sd.mk hr
  have HRR := Sd.mk hrr
  have HM := Sd.mk hm
  clear h hm hz hr hrr hb0 hp hv
  by_cases hn : 1 ≤ n ∧ n ≤ 7
  · have HN := Sd.mk (fun W => nodes_any W n true (decide_eq_true hn))
    obtain ⟨n', rfl⟩ : ∃ n' : Nat, n = (n' : Int) := ⟨n.toNat, by omega⟩
    obtain ⟨q, hq⟩ : ∃ q, q = n' - Gat.fl n' := ⟨_, rfl⟩
    have hq1 : 1 ≤ q := by have := Gat.fl_lt (n := n') (by omega); omega
    have HQ := Sd.mk (fun W => Gat.quorum_any W n' (by omega) (by omega) q hq)
    obtain ⟨l, hl⟩ : ∃ l, (if rr = true then goodF p c.sigs else []) = l := ⟨_, rfl⟩
    obtain ⟨j, hj⟩ : ∃ j, l.length = j := ⟨_, rfl⟩
    have HJ := Sd.mk hj
    have HL := Sd.mk hl
    obtain ⟨b, hb⟩ : ∃ b, decide ((q : Int) ≤ (j : Int)) = b := ⟨_, rfl⟩
    have hb2 : decide (q ≤ j) = b := by rw [← hb]; simp only [decide_eq_decide]; omega
    have HR2 := Sd.mk (show r = b by
      rw [Bool.eq_iff_iff, HR.out, ← hb, decide_eq_true_eq, ← hj, ← hl]
      have e : ((n' : Int)).toNat = n' := Int.toNat_natCast _
      have hfl := Gat.fl_lt (n := n') (by omega)
      rw [e]
      by_cases hc : RightCert c
      · rw [if_pos (HRR.out.2 hc)]
        exact ⟨fun h => by have := h.2.2; omega, fun h => ⟨hc, hn, by omega⟩⟩
      · rw [if_neg (fun h => hc (HRR.out.1 h))]
        exact ⟨fun h => absurd h.1 hc, fun h => by simp only [List.length_nil] at h; omega⟩)
    clear HR HRR hl hj hq
    go_enter Try.func16, Try.ntmps16
    go_upto_region 1 with (fail)
    generalize w.heap.size = Bx at X0 ⊢
    generalize w.alloc _ = W1 at X0 HB ⊢
    have c0 := blk_at X0.out 0 _ rfl
    have c1 := blk_at X0.out 1 _ rfl
    have c2 := blk_at X0.out 2 _ rfl
    go_wp2_with (first
      | (go_at_call 53; (with_reducible refine (HN.out _).mono ?_); rintro e w2 ⟨rfl, hw2⟩; obtain rfl := hw2.symm)
      | (go_at_call 14; (with_reducible refine (HGD.out _ HB.out).mono ?_); rintro e w3 ⟨v, rfl, ho⟩; rw [HL.out] at ho; obtain ⟨A3, k3, rfl, -⟩ := ho.slice; rw [HJ.out]; have HB3 := Sd.mk (below_then HB.out ho.bel); clear ho)
      | (go_at_call 54; (with_reducible refine (HQ.out _).mono ?_); rintro e w4 ⟨rfl, hw4⟩; obtain rfl := hw4.symm))
    go_ret
    exact ⟨by rw [HR2.out]; rfl, HB3.out⟩
  · have HN := Sd.mk (fun W => nodes_any W n false (decide_eq_false hn))
    obtain rfl : r = false := by
      cases r with
      | false => rfl
      | true => exact absurd (HR.out.1 rfl).2.1 hn
    clear hn HR
    go_enter Try.func16, Try.ntmps16
    go_upto_region 1 with (fail)
    generalize w.heap.size = Bx at X0 ⊢
    generalize w.alloc _ = W1 at X0 HB ⊢
    have c0 := blk_at X0.out 0 _ rfl
    have c1 := blk_at X0.out 1 _ rfl
    have c2 := blk_at X0.out 2 _ rfl
    go_wp2_with (first
      | (go_at_call 53; (with_reducible refine (HN.out _).mono ?_); rintro e w2 ⟨rfl, hw2⟩; obtain rfl := hw2.symm))
    go_ret
    exact ⟨rfl, HB.out⟩
theorem certholds_any (w : World) (seed : ByteArray) (hsd : seed.size ≤ 35184372088832) (tn n : Int) (c : Cert) (A : Option Addr) (k : Nat) (h : Sl sgK w A k c.sigs) (m : Nat) (hm : m = c.sigs.length) (hz : (certB c).size ≤ 9223372036854775807) (p : Sg.Sig → Bool) (hp : Tells seed tn n c p) (r : Bool) (hr : r = true ↔ HoldsC p n c) : Calls Try.prog 16 #[.string seed, .int .i64 tn, .int .i64 n, .agg #[.int .i64 c.view, .string c.block, .slice A m k]] w fun e w' => e = .returned (.bool r) ∧ RowKit.Below w.heap.size w w' := by
  by_cases hv : c.view = 0
  · exact holds_0 w seed tn n c A k h m hm hz hv r (hr.trans (by unfold HoldsC; rw [if_pos hv]))
  · exact holds_1 w seed hsd tn n c A k h m hm hz p hp hv r (hr.trans (by unfold HoldsC; rw [if_neg hv]))
end Go.Proofs.Ytdmdfpbklflijaa.Crt
set_option linter.unusedVariables false
set_option linter.unusedSimpArgs false
namespace Go.Proofs.Ytdmdfpbklflijaa.Crt
open Go.RowKit Go.Sort Rd Api Own Mv App Num Dig Mac Rp

set_option maxHeartbeats 1000000 in
theorem reftext_any (w : World) (view : Int) (b : ByteArray) (hb : b.size ≤ 70368744177664) (t : ByteArray) (ht : vtxt view b = t) : Calls Try.prog 24 #[.int .i64 view, .string b] w fun e w' => e = .returned (.string t) ∧ RowKit.Below w.heap.size w w' := by
  obtain ⟨n, hn⟩ : ∃ n, num4 view = n := ⟨_, rfl⟩
  have hn4 : n.size = 4 := by rw [← hn]; exact num4_size _
  have hcat : ¬9223372036854775807 < 1 + n.size := by omega
  have hcat2 : ¬9223372036854775807 < (({ data := #[86] } : ByteArray) ++ n).size + b.size := by rw [show (({ data := #[86] } : ByteArray) ++ n).size = 1 + n.size from Rp.app_size _ _]; omega
  have hcat3 : ¬9223372036854775807 < 1 + n.size + b.size := by omega
  have HN := Sd.mk hn
  have HT := Sd.mk (show VB ++ n ++ b = t by rw [← ht, ← hn]; rfl)
  clear hn hn4 ht
  go_enter Try.func24, Try.ntmps24
  go_wp2_with (first
    | (go_at_call 58; (with_reducible refine (Num.ref_number_any _ _).mono ?_); rintro e w1 ⟨rfl, hb1⟩; rw [HN.out]))
  go_ret
  exact ⟨by rw [← HT.out]; rfl, hb1⟩
theorem refsum_first (w : World) (d : ByteArray) (hd : FB = d) : Calls Try.prog 27 #[.string { data := #[] }, .string { data := #[102, 105, 114, 115, 116] }] w fun e w' => e = .returned (.string d) ∧ RowKit.Below w.heap.size w w' := by
  subst hd; exact ref0_any w FIRST (by decide)
set_option maxHeartbeats 1000000 in
theorem reffirst_any (w : World) (d : ByteArray) (hd : FB = d) : Calls Try.prog 22 #[] w fun e w' => e = .returned (.string d) ∧ RowKit.Below w.heap.size w w' := by
  go_enter Try.func22, Try.ntmps22
  go_wp2_with (first
    | (go_at_call 27; (with_reducible refine (refsum_first _ d hd).mono ?_); rintro e w1 ⟨rfl, hb⟩; have HB := Sd.mk hb; clear hb))
  go_ret
  exact ⟨rfl, HB.out⟩
theorem endF_in {i : Int} (h0 : 0 ≤ i) (h1 : i ≤ 20) : endF i = i := by unfold endF; rw [if_neg (by omega)]
theorem all16_of {l : List ByteArray} (h : ∀ t ∈ l, t.size = 16) : all16 l := fun j hj => h _ (List.getElem_mem hj)
set_option maxHeartbeats 8000000 in
set_option maxRecDepth 100000 in
theorem refgood_any (w : World) (seed : ByteArray) (hsd : seed.size ≤ 35184372088832) (tn n : Int) (c : Cert) (A : Option Addr) (k : Nat) (h : Sl sgK w A k c.sigs) (m : Nat) (hm : m = c.sigs.length) (p : Sg.Sig → Bool) (hp : Tells seed tn n c p) (r : Bool) (hr : r = true ↔ RightCert c) :
    Calls Try.prog 15 #[.string seed, .int .i64 tn, .int .i64 n, .agg #[.int .i64 c.view, .string c.block, .slice A m k]] w fun e w' => ∃ v, e = .returned v ∧ Og w v (if r = true then goodF p c.sigs else []) w' := by
  have mixed : Try.prog.follows .mixedOrders = true := by kernel_rfl
  have hb0 := below_one w (.cells #[.int .i64 c.view, .string c.block, .slice A m k] 24)
  have HB := Sd.mk hb0
  have HS := Sd.mk (h.below hb0)
  have X0 := Sd.mk (blk_new w (.cells #[.int .i64 c.view, .string c.block, .slice A m k] 24))
  have HM := Sd.mk hm
  have mk := Nat.le_trans h.le h.cap
  rw [← hm] at mk
  have HRT := Sd.mk (refright_any (w.alloc (.cells #[.int .i64 c.view, .string c.block, .slice A m k] 24)) c A k HS.out m hm r hr)
  have HP := Sd.mk hp
  have HR := Sd.mk hr
  clear h hm hp hr hb0
  by_cases hall : r = true ∧ (1 ≤ n ∧ n ≤ 7) ∧ (0 ≤ tn ∧ tn < n)
  · obtain ⟨rfl, hn, ht⟩ := hall
    have hrc := HR.out.1 rfl
    have hm7 : m ≤ 7 := by rw [HM.out]; exact hrc.n
    obtain ⟨n', rfl⟩ : ∃ n' : Nat, n = (n' : Int) := ⟨n.toNat, by omega⟩
    obtain ⟨t', rfl⟩ : ∃ t' : Nat, tn = (t' : Int) := ⟨tn.toNat, by omega⟩
    obtain ⟨tx, htx⟩ : ∃ tx, vtxt c.view c.block = tx := ⟨_, rfl⟩
    have htz : tx.size ≤ 35184372088832 := by rw [← htx, vtxt_size, hrc.b]; omega
    have HT := Sd.mk htx
    have HTZ := Sd.mk htz
    have HBZ := Sd.mk (show c.block.size ≤ 70368744177664 by rw [hrc.b]; omega)
    have HALL := Sd.mk hrc.all
    have hn1 : 1 ≤ n' := by omega
    have hn7 : n' ≤ 7 := by omega
    have htn : t' < n' := by omega
    have d0 : decide ((n' : Int) < 1) = false := decide_eq_false (by omega)
    have d0b : decide (n' < 1) = false := decide_eq_false (by omega)
    have d1 : decide (7 < (n' : Int)) = false := decide_eq_false (by omega)
    have d1b : decide (7 < n') = false := decide_eq_false (by omega)
    have d2 : decide ((t' : Int) < 0) = false := decide_eq_false (by omega)
    have d3 : decide ((n' : Int) ≤ (t' : Int)) = false := decide_eq_false (by omega)
    have d3b : decide (n' ≤ t') = false := decide_eq_false (by omega)
    clear hrc htx htz hn ht
    go_enter Try.func15, Try.ntmps15
    go_upto_region 1 with (fail)
    generalize w.heap.size = Bx at X0 ⊢
    generalize w.alloc _ = W1 at X0 HB HS HRT ⊢
    have c0 := blk_at X0.out 0 _ rfl
    have c1 := blk_at X0.out 1 _ rfl
    have c2 := blk_at X0.out 2 _ rfl
    go_upto_region 4 with (first
      | (go_at_call 51; (with_reducible refine HRT.out.mono ?_); rintro e w2 ⟨rfl, hb⟩; have HB2 := Sd.mk (below_then HB.out hb); have X2 := Sd.mk (blk_keep X0.out hb); have HS2 := Sd.mk (HS.out.below hb); clear hb))
    clear HRT HB X0 HS c0 c1 c2 d0 d0b d1 d1b d2 d3 d3b
    go_wp2
    have H0 := Sd.mk (show Og w2 (.slice none 0 0) (goodF p (c.sigs.take 0)) w2 from ⟨OwnR.nil _ _ _ _ _, Below.refl _ _⟩)
    go_loopg [9, 10, 11] m (fun gk v9 v10 v11 wr => ∃ (i : Nat) (B : Option Addr) (q d : Nat), i + gk = m ∧ q ≤ i ∧ v9 = .slice B q d ∧ v10 = .int .i64 (i : Nat) ∧ Sd ((goodF p (c.sigs.take i)).length = q) ∧ Sd (Og w2 (.slice B q d) (goodF p (c.sigs.take i)) wr))
    case atStart => exact ⟨0, none, 0, 0, by omega, by omega, rfl, rfl, ⟨rfl⟩, H0⟩
    case round =>
      clear H0
      obtain ⟨i, B, q, d, hi, hqi, rfl, rfl, HK, HO⟩ := hrel
      have HW := Sd.mk HO.out.bel
      have c2 := blk_at (blk_keep X2.out HW.out) 2 _ rfl
      by_cases hlt : i < m
      · have hii : (i : Int) < m := by omega
        obtain ⟨x, hx⟩ : ∃ x, c.sigs[i]? = some x := ⟨_, List.getElem?_eq_getElem (show i < c.sigs.length by rw [← HM.out]; exact hlt)⟩
        obtain ⟨o1, o2, A1, c1, rfl, p0, p1, s1⟩ := sg_at HS2.out hx
        have p0 := cell_below HW.out p0
        have p1 := cell_below HW.out p1
        have S1 := Sd.mk (s1.below HW.out)
        have X3 := Sd.mk (blk_keep X2.out HW.out)
        have HX := Sd.mk hx
        have hrs := HALL.out x (List.mem_of_getElem? hx)
        have xc := Nat.le_trans s1.le s1.cap
        obtain ⟨l, hl⟩ : ∃ l, l = x.tags.length := ⟨_, rfl⟩
        have HLN := Sd.mk hl
        obtain ⟨b0, hb0⟩ : ∃ b, decide (x.node < (n' : Int)) = b := ⟨_, rfl⟩
        obtain ⟨b1, hb1⟩ : ∃ b, ((l : Int) == (n' : Int)) = b := ⟨_, rfl⟩
        obtain ⟨u, hu⟩ : ∃ u, mtag seed x.node (t' : Int) tx = u := ⟨_, rfl⟩
        have HU := Sd.mk hu
        obtain ⟨rp, hrp⟩ : ∃ b, p x = b := ⟨_, rfl⟩
        have HRP := Sd.mk (show rp = true ↔ b0 = true ∧ b1 = true ∧ x.tags[t']? = some u by
          rw [← hrp, HP.out x, HT.out, ← hb0, ← hb1, ← hu]
          unfold holdsF
          rw [endF_in (by have := hrs.1; omega) (by have := hrs.2.1; omega), endF_in (by omega) (by omega), Int.toNat_natCast, hl]
          simp only [decide_eq_true_eq, beq_iff_eq]
          exact ⟨fun h => ⟨h.2.2.1.2, h.2.2.2.1, h.2.2.2.2.2⟩, fun h => ⟨by omega, by omega, ⟨hrs.1, h.1⟩, h.2.1, all16_of hrs.2.2.2, h.2.2⟩⟩)
        have HGT := Sd.mk (show goodF p (c.sigs.take (i + 1)) = if rp = true then goodF p (c.sigs.take i) ++ [x.node] else goodF p (c.sigs.take i) by rw [good_take hx, hrp])
        rw [← hl] at p1 xc
        clear hx hrp s1 hrs hu hl
        go_upto_region 8 with (fail)
        have Y0 := Sd.mk (blk_new wr (.cells #[.int .i64 x.node, .slice A1 l c1] 39))
        have hb := below_one wr (.cells #[.int .i64 x.node, .slice A1 l c1] 39)
        have HO4 := Sd.mk (HO.out.below hb)
        have X4 := Sd.mk (blk_keep X3.out hb)
        have S4 := Sd.mk (S1.out.below hb)
        clear p0 p1 S1 X3 HO HW hb c2
        generalize wr.heap.size = Bv at Y0 ⊢
        generalize wr.alloc _ = W4 at Y0 HO4 X4 S4 ⊢
        have x0 := fun d os => cell_regrown (blk_at X4.out 0 _ rfl) d os
        have x1 := fun d os => cell_regrown (blk_at X4.out 1 _ rfl) d os
        have y0 := fun d os => cell_regrown (blk_at Y0.out 0 _ rfl) d os
        have y1 := fun d os => cell_regrown (blk_at Y0.out 1 _ rfl) d os
        cases b0 with
        | false =>
          obtain rfl : rp = false := by
            cases rp with
            | false => rfl
            | true => exact absurd (HRP.out.1 rfl).1 (by simp)
          refine wp_region_quiet_below (by assumption) (by kernel_rfl) ?_
          repeat (go_big_quiet_step (fail))
          refine wpQuiet_nil ?_
          rintro W9 ⟨⟨nq, osq⟩, rfl⟩
          have HO5 := Sd.mk (HO4.out.below (below_regrown W4 nq osq))
          ((have HG2 := Sd.mk (show goodF p (c.sigs.take (i + 1)) = goodF p (c.sigs.take i) from HGT.out)); (have HK2 := Sd.mk (show (goodF p (c.sigs.take (i + 1))).length = q by rw [HG2.out]; exact HK.out)); (have HO6 := Sd.mk (by have h := HO5.out; rw [← HG2.out] at h; exact h)); go_wp2; go_roundg (gk - 1); (case measure => omega); (case rel => exact ⟨i + 1, B, q, d, by omega, by omega, rfl, by go_num, HK2, HO6⟩))
        | true =>
          cases b1 with
          | false =>
            obtain rfl : rp = false := by
              cases rp with
              | false => rfl
              | true => exact absurd (HRP.out.1 rfl).2.1 (by simp)
            refine wp_region_quiet_below (by assumption) (by kernel_rfl) ?_
            repeat (go_big_quiet_step (fail))
            refine wpQuiet_nil ?_
            rintro W9 ⟨⟨nq, osq⟩, rfl⟩
            have HO5 := Sd.mk (HO4.out.below (below_regrown W4 nq osq))
            ((have HG2 := Sd.mk (show goodF p (c.sigs.take (i + 1)) = goodF p (c.sigs.take i) from HGT.out)); (have HK2 := Sd.mk (show (goodF p (c.sigs.take (i + 1))).length = q by rw [HG2.out]; exact HK.out)); (have HO6 := Sd.mk (by have h := HO5.out; rw [← HG2.out] at h; exact h)); go_wp2; go_roundg (gk - 1); (case measure => omega); (case rel => exact ⟨i + 1, B, q, d, by omega, by omega, rfl, by go_num, HK2, HO6⟩))
          | true =>
            have hln : l = n' := by have := eq_of_beq hb1; omega
            have htl : t' < x.tags.length := by rw [← HLN.out, hln]; exact htn
            obtain ⟨b3, o3, rfl, z0, -⟩ := str_at S4.out.row htl
            obtain ⟨y, hy⟩ : ∃ y, x.tags[t'] = y := ⟨_, rfl⟩
            rw [hy] at z0
            have HY := Sd.mk (show x.tags[t']? = some y by rw [List.getElem?_eq_getElem htl, hy])
            have z0' := fun d os => cell_regrown z0 d os
            have htli : (t' : Int) < (l : Int) := by omega
            have htln : t' < l := by omega
            obtain ⟨b2, hb2⟩ : ∃ b, (y.toList == u.toList) = b := ⟨_, rfl⟩
            have HRP2 := Sd.mk (show rp = b2 by
              rw [Bool.eq_iff_iff, HRP.out, ← hb2, str_beq, decide_eq_true_eq, HY.out]
              exact ⟨fun h => Option.some.inj h.2.2, fun h => ⟨rfl, rfl, by rw [h]⟩⟩)
            clear hln htl hy z0 HRP
            refine wp_region_quiet_below (by assumption) (by kernel_rfl) ?_
            repeat (go_big_quiet_step ((first
              | (go_at_call 24; refine Calls.regrown_of (reftext_any _ c.view c.block HBZ.out tx HT.out))
              | (go_at_call 52; refine Calls.regrown_of (reftag_any _ seed x.node (t' : Int) tx hsd HTZ.out u HU.out)))))
            refine wpQuiet_nil ?_
            rintro W9 ⟨⟨nq, osq⟩, rfl⟩
            have hb9 := below_regrown W4 nq osq
            have HO5 := Sd.mk (HO4.out.below hb9)
            cases b2 with
            | false =>
              obtain rfl : rp = false := HRP2.out
              ((have HG2 := Sd.mk (show goodF p (c.sigs.take (i + 1)) = goodF p (c.sigs.take i) from HGT.out)); (have HK2 := Sd.mk (show (goodF p (c.sigs.take (i + 1))).length = q by rw [HG2.out]; exact HK.out)); (have HO6 := Sd.mk (by have h := HO5.out; rw [← HG2.out] at h; exact h)); go_wp2; go_roundg (gk - 1); (case measure => omega); (case rel => exact ⟨i + 1, B, q, d, by omega, by omega, rfl, by go_num, HK2, HO6⟩))
            | true =>
              obtain rfl : rp = true := HRP2.out
              have Y5 := Sd.mk (blk_keep Y0.out hb9)
              clear x0 x1 y0 y1 z0' HO4 X4 Y0 S4 hb9
              generalize grow _ _ = W5 at HO5 Y5 ⊢
              have y0 := blk_at Y5.out 0 _ rfl
              have HG2 := Sd.mk (show goodF p (c.sigs.take (i + 1)) = goodF p (c.sigs.take i) ++ [x.node] from HGT.out)
              go_wp2_with (first
                | (at_builtin; refine append_one (f := fI) (n := 1) (fun _ => rfl) fI_one w2.heap.size rfl (.tmp 74) (.tmp 77) 28 3 (.int .i64 0) 8 rfl Try.underlying28 info_int rfl (by decide) (.slice B q d) (goodF p (c.sigs.take i)) x.node rfl rfl HO5.out.own HO5.out.bel HO5.out.bel.size (by rw [HK.out]; omega) (by rw [HK.out]; omega) ?_; intro v6 w6 hown hbel hgrow; obtain ⟨A6, q6, rfl⟩ := OwnR.slice hown; have hl6 : (goodF p (c.sigs.take i) ++ [x.node]).length = q + 1 := (by rw [List.length_append, HK.out]; rfl); rw [hl6] at hown ⊢; have HK6 := Sd.mk hl6; have HO6 := Sd.mk (⟨hown, hbel⟩ : Og w2 (.slice A6 (q + 1) q6) (goodF p (c.sigs.take i) ++ [x.node]) w6); clear hown hbel hgrow hl6))
              go_roundg (gk - 1)
              case measure => omega
              case rel => exact ⟨i + 1, A6, q + 1, q6, by omega, by omega, rfl, by go_num, ⟨by rw [HG2.out]; exact HK6.out⟩, ⟨by rw [HG2.out]; exact HO6.out⟩⟩
      · have hii : decide (i < m) = false := decide_eq_false (by omega)
        have hii2 : decide ((i : Int) < (m : Int)) = false := decide_eq_false (by omega)
        have HE := Sd.mk (show c.sigs.take i = c.sigs from List.take_of_length_le (by rw [← HM.out]; omega))
        go_wp2
        go_ret
        exact ⟨_, rfl, by have := HO.out; rw [HE.out] at this; exact this.up HB2.out⟩
  · have HE := Sd.mk (show (if r = true then goodF p c.sigs else []) = [] by
      cases r with
      | false => rfl
      | true =>
        rw [if_pos rfl]
        have hno : ∀ x ∈ c.sigs, ¬ p x = true := fun x _ h => by
          have := (HP.out x).1 h
          exact hall ⟨rfl, this.1, this.2.1⟩
        unfold goodF
        rw [List.filter_eq_nil_iff.2 hno]; rfl)
    rw [HE.out]
    obtain ⟨b0, hb0⟩ : ∃ b, decide (n < 1) = b := ⟨_, rfl⟩
    obtain ⟨b1, hb1⟩ : ∃ b, decide (7 < n) = b := ⟨_, rfl⟩
    obtain ⟨b2, hb2⟩ : ∃ b, decide (tn < 0) = b := ⟨_, rfl⟩
    obtain ⟨b3, hb3⟩ : ∃ b, decide (n ≤ tn) = b := ⟨_, rfl⟩
    have hor : (!r || b0 || b1 || b2 || b3) = true := by
      rw [← hb0, ← hb1, ← hb2, ← hb3]
      cases r with
      | false => rfl
      | true =>
        simp only [Bool.not_true, Bool.false_or, Bool.or_eq_true, decide_eq_true_eq]
        by_cases h1 : 1 ≤ n ∧ n ≤ 7
        · have h3 : ¬ (0 ≤ tn ∧ tn < n) := fun h2 => hall ⟨rfl, h1, h2⟩
          omega
        · omega
    clear HE HP HR hall
    go_enter Try.func15, Try.ntmps15
    go_upto_region 1 with (fail)
    generalize w.heap.size = Bx at X0 ⊢
    generalize w.alloc _ = W1 at X0 HB HS HRT ⊢
    have c0 := blk_at X0.out 0 _ rfl
    have c1 := blk_at X0.out 1 _ rfl
    have c2 := blk_at X0.out 2 _ rfl
    cases r with
    | false => (go_wp2_with (first | (go_at_call 51; (with_reducible refine HRT.out.mono ?_); rintro e w2 ⟨rfl, hb⟩; have HB2 := Sd.mk (below_then HB.out hb); clear hb)); go_ret; exact ⟨_, rfl, OwnR.nil _ _ _ _ _, HB2.out⟩)
    | true =>
      cases b0 with
      | true => (go_wp2_with (first | (go_at_call 51; (with_reducible refine HRT.out.mono ?_); rintro e w2 ⟨rfl, hb⟩; have HB2 := Sd.mk (below_then HB.out hb); clear hb)); go_ret; exact ⟨_, rfl, OwnR.nil _ _ _ _ _, HB2.out⟩)
      | false =>
        cases b1 with
        | true => (go_wp2_with (first | (go_at_call 51; (with_reducible refine HRT.out.mono ?_); rintro e w2 ⟨rfl, hb⟩; have HB2 := Sd.mk (below_then HB.out hb); clear hb)); go_ret; exact ⟨_, rfl, OwnR.nil _ _ _ _ _, HB2.out⟩)
        | false =>
          cases b2 with
          | true => (go_wp2_with (first | (go_at_call 51; (with_reducible refine HRT.out.mono ?_); rintro e w2 ⟨rfl, hb⟩; have HB2 := Sd.mk (below_then HB.out hb); clear hb)); go_ret; exact ⟨_, rfl, OwnR.nil _ _ _ _ _, HB2.out⟩)
          | false =>
            obtain rfl : b3 = true := hor
            (go_wp2_with (first | (go_at_call 51; (with_reducible refine HRT.out.mono ?_); rintro e w2 ⟨rfl, hb⟩; have HB2 := Sd.mk (below_then HB.out hb); clear hb)); go_ret; exact ⟨_, rfl, OwnR.nil _ _ _ _ _, HB2.out⟩)
end Go.Proofs.Ytdmdfpbklflijaa.Crt
set_option linter.unusedVariables false
set_option linter.unusedSimpArgs false
namespace Go.Proofs.Ytdmdfpbklflijaa.Crt
open Go.RowKit Go.Sort Rd Api Own Mv App Num Dig Mac Rp

set_option maxHeartbeats 8000000 in
set_option maxRecDepth 100000 in
theorem refholds_any (w : World) (seed : ByteArray) (hsd : seed.size ≤ 35184372088832) (tn n : Int) (c : Cert) (A : Option Addr) (k : Nat) (h : Sl sgK w A k c.sigs) (m : Nat) (hm : m = c.sigs.length) (p : Sg.Sig → Bool) (hp : Tells seed tn n c p) (r : Bool) (hr : r = true ↔ HoldsC p n c) : Calls Try.prog 17 #[.string seed, .int .i64 tn, .int .i64 n, .agg #[.int .i64 c.view, .string c.block, .slice A m k]] w fun e w' => e = .returned (.bool r) ∧ RowKit.Below w.heap.size w w' := by
  have mixed : Try.prog.follows .mixedOrders = true := by kernel_rfl
  obtain ⟨rr, hrr⟩ : ∃ b : Bool, b = true ↔ RightCert c := ⟨@decide (RightCert c) (Classical.propDecidable _), by simp⟩
  have hb0 := below_one w (.cells #[.int .i64 c.view, .string c.block, .slice A m k] 24)
  have HB := Sd.mk hb0
  have X0 := Sd.mk (blk_new w (.cells #[.int .i64 c.view, .string c.block, .slice A m k] 24))
  have HRT := Sd.mk (fun W (hW : RowKit.Below w.heap.size w W) => refright_any W c A k (h.below hW) m hm rr hrr)
  have HGD := Sd.mk (fun W (hW : RowKit.Below w.heap.size w W) => refgood_any W seed hsd tn n c A k (h.below hW) m hm p hp rr hrr)
  have HR := Sd.mk hr
  have HRR := Sd.mk hrr
  have HM := Sd.mk hm
  have mk := Nat.le_trans h.le h.cap
  rw [← hm] at mk
  clear h hm hr hrr hb0 hp
  cases rr with
  | false =>
    obtain rfl : r = false := by
      cases r with
      | false => rfl
      | true => have := HRR.out.2 (HR.out.1 rfl).1; cases this
    go_enter Try.func17, Try.ntmps17
    go_upto_region 1 with (fail)
    generalize w.heap.size = Bx at X0 ⊢
    generalize w.alloc _ = W1 at X0 HB ⊢
    have c0 := blk_at X0.out 0 _ rfl
    have c1 := blk_at X0.out 1 _ rfl
    have c2 := blk_at X0.out 2 _ rfl
    go_wp2_with (first
      | (go_at_call 51; (with_reducible refine (HRT.out _ HB.out).mono ?_); rintro e w2 ⟨rfl, hb⟩; have HB2 := Sd.mk (below_then HB.out hb); clear hb))
    go_ret
    exact ⟨rfl, HB2.out⟩
  | true =>
    have HRC := Sd.mk (HRR.out.1 rfl)
    by_cases hv : c.view = 0
    · have hv0 : (c.view == 0) = true := by rw [hv]; rfl
      obtain ⟨d, hd⟩ : ∃ d, FB = d := ⟨_, rfl⟩
      have HD := Sd.mk hd
      obtain ⟨b1, hb1⟩ : ∃ b, (c.block.toList == d.toList) = b := ⟨_, rfl⟩
      obtain ⟨b2, hb2⟩ : ∃ b, ((m : Int) == 0) = b := ⟨_, rfl⟩
      have hb3 : (m == 0) = b2 := by rw [← hb2, Bool.eq_iff_iff]; simp
      have HR2 := Sd.mk (show r = (b1 && b2) by
        rw [Bool.eq_iff_iff, HR.out]
        unfold HoldsC
        rw [if_pos hv, hd]
        simp only [Bool.and_eq_true, ← hb1, ← hb3, str_beq, decide_eq_true_eq, beq_iff_eq]
        rw [HM.out, List.length_eq_zero_iff]
        exact ⟨fun h => h.2, fun h => ⟨HRC.out, h⟩⟩)
      clear hd HR HGD hv
      go_enter Try.func17, Try.ntmps17
      go_upto_region 1 with (fail)
      generalize w.heap.size = Bx at X0 ⊢
      generalize w.alloc _ = W1 at X0 HB ⊢
      have c0 := blk_at X0.out 0 _ rfl
      have c1 := blk_at X0.out 1 _ rfl
      have c2 := blk_at X0.out 2 _ rfl
      go_upto_region 3 with (first
        | (go_at_call 51; (with_reducible refine (HRT.out _ HB.out).mono ?_); rintro e w2 ⟨rfl, hb⟩; have HB2 := Sd.mk (below_then HB.out hb); have X2 := Sd.mk (blk_keep X0.out hb); clear hb))
      clear c0 c1 c2 X0 HB
      have c0 := blk_at X2.out 0 _ rfl
      go_upto_region 4 with (fail)
      clear c0
      have x1 := fun d os => cell_regrown (blk_at X2.out 1 _ rfl) d os
      have x2 := fun d os => cell_regrown (blk_at X2.out 2 _ rfl) d os
      cases b1 with
      | false =>
        obtain rfl : r = false := HR2.out
        refine wp_region_quiet_below (by assumption) (by kernel_rfl) ?_
        repeat (go_big_quiet_step ((go_at_call 22; refine Calls.regrown_of (reffirst_any _ d HD.out))))
        refine wpQuiet_nil ?_
        rintro W9 ⟨⟨nq, osq⟩, rfl⟩
        have HB9 := Sd.mk (below_then HB2.out (below_regrown w2 nq osq))
        go_wp2
        go_ret
        exact ⟨rfl, HB9.out⟩
      | true =>
        obtain rfl : r = b2 := HR2.out
        refine wp_region_quiet_below (by assumption) (by kernel_rfl) ?_
        repeat (go_big_quiet_step ((go_at_call 22; refine Calls.regrown_of (reffirst_any _ d HD.out))))
        refine wpQuiet_nil ?_
        rintro W9 ⟨⟨nq, osq⟩, rfl⟩
        have HB9 := Sd.mk (below_then HB2.out (below_regrown w2 nq osq))
        go_wp2
        go_ret
        exact ⟨rfl, HB9.out⟩
    · have hv0 : (c.view == 0) = false := by rw [beq_eq_false_iff_ne]; exact hv
      by_cases hn : 1 ≤ n ∧ n ≤ 7
      · obtain ⟨n', rfl⟩ : ∃ n' : Nat, n = (n' : Int) := ⟨n.toNat, by omega⟩
        have hn1 : 1 ≤ n' := by omega
        have hn7 : n' ≤ 7 := by omega
        obtain ⟨q, hq⟩ : ∃ q, q = Gat.fl n' := ⟨_, rfl⟩
        have hqn : q < n' := by have := Gat.fl_lt (n := n') (by omega); omega
        have HQ := Sd.mk (fun W => Gat.reffaults_any W n' (by omega) (by omega) q hq)
        obtain ⟨l, hl⟩ : ∃ l, goodF p c.sigs = l := ⟨_, rfl⟩
        obtain ⟨j, hj⟩ : ∃ j, l.length = j := ⟨_, rfl⟩
        have HJ := Sd.mk hj
        have HL := Sd.mk (show (if true = true then goodF p c.sigs else []) = l by rw [if_pos rfl]; exact hl)
        obtain ⟨b, hb⟩ : ∃ b, decide ((n' : Int) - (q : Int) ≤ (j : Int)) = b := ⟨_, rfl⟩
        have HR2 := Sd.mk (show r = b by
          rw [Bool.eq_iff_iff, HR.out, ← hb, decide_eq_true_eq, ← hj, ← hl]
          unfold HoldsC
          rw [if_neg hv, Int.toNat_natCast, ← hq]
          exact ⟨fun h => h.2.2, fun h => ⟨HRC.out, hn, h⟩⟩)
        have d0 : decide ((n' : Int) < 1) = false := decide_eq_false (by omega)
        have d0b : decide (n' < 1) = false := decide_eq_false (by omega)
        have d1 : decide (7 < (n' : Int)) = false := decide_eq_false (by omega)
        have d1b : decide (7 < n') = false := decide_eq_false (by omega)
        clear HR hl hj hq hv hn HRC HRR
        go_enter Try.func17, Try.ntmps17
        go_upto_region 1 with (fail)
        generalize w.heap.size = Bx at X0 ⊢
        generalize w.alloc _ = W1 at X0 HB ⊢
        have c0 := blk_at X0.out 0 _ rfl
        have c1 := blk_at X0.out 1 _ rfl
        have c2 := blk_at X0.out 2 _ rfl
        go_upto_region 3 with (first
          | (go_at_call 51; (with_reducible refine (HRT.out _ HB.out).mono ?_); rintro e w2 ⟨rfl, hb⟩; have HB2 := Sd.mk (below_then HB.out hb); have X2 := Sd.mk (blk_keep X0.out hb); clear hb))
        clear c0 c1 c2 X0 HB HRT
        have c0 := blk_at X2.out 0 _ rfl
        have c1 := blk_at X2.out 1 _ rfl
        have c2 := blk_at X2.out 2 _ rfl
        go_wp2_with (first
          | (go_at_call 15; (with_reducible refine (HGD.out _ HB2.out).mono ?_); rintro e w3 ⟨v, rfl, ho⟩; rw [HL.out] at ho; obtain ⟨A3, k3, rfl, -⟩ := ho.slice; rw [HJ.out]; have HB3 := Sd.mk (below_then HB2.out ho.bel); clear ho)
          | (go_at_call 19; (with_reducible refine (HQ.out _).mono ?_); rintro e w4 ⟨rfl, hw4⟩; obtain rfl := hw4.symm))
        go_ret
        exact ⟨by rw [HR2.out]; rfl, HB3.out⟩
      · obtain rfl : r = false := by
          cases r with
          | false => rfl
          | true =>
            have h := (HR.out.1 rfl).2
            rw [if_neg hv] at h
            exact absurd h.1 hn
        obtain ⟨b0, hb0⟩ : ∃ b, decide (n < 1) = b := ⟨_, rfl⟩
        obtain ⟨b1, hb1⟩ : ∃ b, decide (7 < n) = b := ⟨_, rfl⟩
        have hor : (b0 || b1) = true := by
          rw [← hb0, ← hb1]
          simp only [Bool.or_eq_true, decide_eq_true_eq]
          omega
        clear HR hv hn HGD
        go_enter Try.func17, Try.ntmps17
        go_upto_region 1 with (fail)
        generalize w.heap.size = Bx at X0 ⊢
        generalize w.alloc _ = W1 at X0 HB ⊢
        have c0 := blk_at X0.out 0 _ rfl
        have c1 := blk_at X0.out 1 _ rfl
        have c2 := blk_at X0.out 2 _ rfl
        go_upto_region 3 with (first
          | (go_at_call 51; (with_reducible refine (HRT.out _ HB.out).mono ?_); rintro e w2 ⟨rfl, hb⟩; have HB2 := Sd.mk (below_then HB.out hb); have X2 := Sd.mk (blk_keep X0.out hb); clear hb))
        clear c0 c1 c2 X0 HB HRT
        have c0 := blk_at X2.out 0 _ rfl
        cases b0 with
        | true =>
          go_wp2
          go_ret
          exact ⟨rfl, HB2.out⟩
        | false =>
          obtain rfl : b1 = true := hor
          go_wp2
          go_ret
          exact ⟨rfl, HB2.out⟩
/-- a certificate of a size that is looked at -/
def certFew (c : Cert) : Prop := c.sigs.length ≤ 10 ∧ c.block.size ≤ 50 ∧ ∀ s ∈ c.sigs, Sg.sigFew s
theorem catB_few : ∀ (l : List ByteArray) (b : ByteArray), (∀ t ∈ l, t.size ≤ 30) → (catB b l).size ≤ b.size + 30 * l.length
  | [], b, _ => by simp [catB]
  | t :: l, b, h => by
    have h1 := catB_few l (b ++ t) (fun u hu => h u (by simp [hu]))
    have h2 := h t (by simp)
    rw [Rp.app_size] at h1
    show (catB (b ++ t) l).size ≤ _
    rw [List.length_cons]; omega
theorem sigB_few {s : Sg.Sig} (h : Sg.sigFew s) : (sigB s).size ≤ 308 := by
  have := catB_few s.tags (num4 s.node ++ num4 (s.tags.length : Int)) h.2
  rw [Rp.app_size, num4_size, num4_size] at this
  have := h.1
  unfold sigB; omega
theorem sigsB_few : ∀ (l : List Sg.Sig) (b : ByteArray), (∀ t ∈ l, Sg.sigFew t) → (sigsB b l).size ≤ b.size + 308 * l.length
  | [], b, _ => by simp [sigsB]
  | t :: l, b, h => by
    have h1 := sigsB_few l (b ++ sigB t) (fun u hu => h u (by simp [hu]))
    have h2 := sigB_few (h t (by simp))
    rw [Rp.app_size] at h1
    show (sigsB (b ++ sigB t) l).size ≤ _
    rw [List.length_cons]; omega
theorem certB_few {c : Cert} (h : certFew c) : (certB c).size ≤ 9223372036854775807 := by
  have := sigsB_few c.sigs (num4 c.view ++ c.block ++ num4 (c.sigs.length : Int)) h.2.2
  rw [Rp.app_size, Rp.app_size, num4_size, num4_size] at this
  have h1 := h.1
  have h2 := h.2.1
  unfold certB; omega
theorem first_right : RightCert ⟨0, FB, []⟩ := ⟨⟨by decide, by decide⟩, FB_size, by simp, trivial, fun x hx => by simp at hx⟩
theorem sgk_nil (W : World) : Sl sgK W none 0 [] := ⟨Nat.le_refl _, by omega, fun i x hx => by simp at hx⟩
theorem first_holds (w : World) (d : ByteArray) (hd : FB = d) : Calls Try.prog 16 #[.string { data := #[] }, .int .i64 0, .int .i64 1, .agg #[.int .i64 0, .string d, .slice none 0 0]] w fun e w' => e = .returned (.bool true) ∧ RowKit.Below w.heap.size w w' := by
  subst hd
  exact holds_0 w { data := #[] } 0 1 ⟨0, FB, []⟩ none 0 (sgk_nil w) 0 rfl (certB_few ⟨by simp, by show FB.size ≤ 50; rw [FB_size]; omega, fun s hs => by simp at hs⟩) rfl true ⟨fun _ => ⟨first_right, rfl, rfl⟩, fun _ => rfl⟩
set_option maxHeartbeats 4000000 in
theorem awake_any (w : World) : Calls Try.prog 12 #[] w fun e w' => e = .returned (.bool true) ∧ RowKit.Below w.heap.size w w' := by
  obtain ⟨d, hd⟩ : ∃ d, FB = d := ⟨_, rfl⟩
  have hd32 : d.size = 32 := by rw [← hd]; exact FB_size
  have HD := Sd.mk hd
  have d32 : ((d.size : Int) == 32) = true := by rw [hd32]; rfl
  have d32b : (d.size == 32) = true := by rw [hd32]; rfl
  have hfc := fun W => field_cert W d
  clear hd hd32
  go_enter Try.func12, Try.ntmps12
  go_wp2_with (first
    | (go_at_call 21; (with_reducible refine (first_any _ d HD.out).mono ?_); rintro e w1 ⟨rfl, hb⟩; (first | (have HB3 := Sd.mk (below_then HB2.out hb)) | have HB1 := Sd.mk hb); clear hb)
    | (go_at_call 16; (with_reducible refine (first_holds _ d HD.out).mono ?_); rintro e w2 ⟨rfl, hb⟩; have HB2 := Sd.mk (below_then HB1.out hb); clear hb))
  go_ret
  exact ⟨rfl, HB3.out⟩
end Go.Proofs.Ytdmdfpbklflijaa.Crt
