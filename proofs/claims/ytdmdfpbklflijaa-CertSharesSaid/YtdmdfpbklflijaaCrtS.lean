/- Certificates: the reference's Holds; what is of a size that is looked at; what a program that does nothing does not answer: walked. -/
import Derived.Test.YtdmdfpbklflijaaCrtR
set_option linter.unusedVariables false
set_option linter.unusedSimpArgs false
namespace Go.Proofs.Ytdmdfpbklflijaa.Crt
open Go.RowKit Go.Sort Rd Api Own Mv App Num Dig Mac Rp

set_option maxHeartbeats 8000000 in
set_option maxRecDepth 100000 in
theorem refholds_any (w : World) (seed : ByteArray) (hsd : seed.size ≤ 35184372088832) (tn n : Int) (c : Cert) (A : Option Addr) (k : Nat) (h : Sl sgK w A k c.sigs) (m : Nat) (hm : m = c.sigs.length) (p : Sg.Sig → Bool) (hp : Tells seed tn n c p) (r : Bool) (hr : r = true ↔ HoldsC p n c) : Calls Try.prog 17 #[.string seed, .int .i64 tn, .int .i64 n, .agg #[.int .i64 c.view, .string c.block, .slice A m k]] w fun e w' => e = .returned (.bool r) ∧ RowKit.Below w.heap.size w w' := by
  have mixed : Try.prog.follows .mixedOrders = true := by kernel_rfl
  obtain ⟨rr, hrr⟩ : ∃ b : Bool, b = true ↔ RightCert c := ⟨@decide (RightCert c) (Classical.propDecidable _), by simp⟩
  have hb0 := below_one w (.cells #[.int .i64 c.view, .string c.block, .slice A m k] 24)
  have HB := Sd.mk hb0
  have X0 := Sd.mk (blk_new w (.cells #[.int .i64 c.view, .string c.block, .slice A m k] 24))
  have HRT := Sd.mk (fun W (hW : RowKit.Below w.heap.size w W) => refright_any W c A k (h.below hW) m hm rr hrr)
  have HGD := Sd.mk (fun W (hW : RowKit.Below w.heap.size w W) => refgood_any W seed hsd tn n c A k (h.below hW) m hm p hp rr hrr)
  have HR := Sd.mk hr
  have HRR := Sd.mk hrr
  have HM := Sd.mk hm
  have mk := Nat.le_trans h.le h.cap
  rw [← hm] at mk
  clear h hm hr hrr hb0 hp
  cases rr with
  | false =>
    obtain rfl : r = false := by
      cases r with
      | false => rfl
      | true => have := HRR.out.2 (HR.out.1 rfl).1; cases this
    go_enter Try.func17, Try.ntmps17
    go_upto_region 1 with (fail)
    generalize w.heap.size = Bx at X0 ⊢
    generalize w.alloc _ = W1 at X0 HB ⊢
    have c0 := blk_at X0.out 0 _ rfl
    have c1 := blk_at X0.out 1 _ rfl
    have c2 := blk_at X0.out 2 _ rfl
    go_wp2_with (first
      | (go_at_call 51; (with_reducible refine (HRT.out _ HB.out).mono ?_); rintro e w2 ⟨rfl, hb⟩; have HB2 := Sd.mk (below_then HB.out hb); clear hb))
    go_ret
    exact ⟨rfl, HB2.out⟩
  | true =>
    have HRC := Sd.mk (HRR.out.1 rfl)
    by_cases hv : c.view = 0
    · have hv0 : (c.view == 0) = true := by rw [hv]; rfl
      obtain ⟨d, hd⟩ : ∃ d, FB = d := ⟨_, rfl⟩
      have HD := Sd.mk hd
      obtain ⟨b1, hb1⟩ : ∃ b, (c.block.toList == d.toList) = b := ⟨_, rfl⟩
      obtain ⟨b2, hb2⟩ : ∃ b, ((m : Int) == 0) = b := ⟨_, rfl⟩
      have hb3 : (m == 0) = b2 := by rw [← hb2, Bool.eq_iff_iff]; simp
      have HR2 := Sd.mk (show r = (b1 && b2) by
        rw [Bool.eq_iff_iff, HR.out]
        unfold HoldsC
        rw [if_pos hv, hd]
        simp only [Bool.and_eq_true, ← hb1, ← hb3, str_beq, decide_eq_true_eq, beq_iff_eq]
        rw [HM.out, List.length_eq_zero_iff]
        exact ⟨fun h => h.2, fun h => ⟨HRC.out, h⟩⟩)
      clear hd HR HGD hv
      go_enter Try.func17, Try.ntmps17
      go_upto_region 1 with (fail)
      generalize w.heap.size = Bx at X0 ⊢
      generalize w.alloc _ = W1 at X0 HB ⊢
      have c0 := blk_at X0.out 0 _ rfl
      have c1 := blk_at X0.out 1 _ rfl
      have c2 := blk_at X0.out 2 _ rfl
      go_upto_region 3 with (first
        | (go_at_call 51; (with_reducible refine (HRT.out _ HB.out).mono ?_); rintro e w2 ⟨rfl, hb⟩; have HB2 := Sd.mk (below_then HB.out hb); have X2 := Sd.mk (blk_keep X0.out hb); clear hb))
      clear c0 c1 c2 X0 HB
      have c0 := blk_at X2.out 0 _ rfl
      go_upto_region 4 with (fail)
      clear c0
      have x1 := fun d os => cell_regrown (blk_at X2.out 1 _ rfl) d os
      have x2 := fun d os => cell_regrown (blk_at X2.out 2 _ rfl) d os
      cases b1 with
      | false =>
        obtain rfl : r = false := HR2.out
        refine wp_region_quiet_below (by assumption) (by kernel_rfl) ?_
        repeat (go_big_quiet_step ((go_at_call 22; refine Calls.regrown_of (reffirst_any _ d HD.out))))
        refine wpQuiet_nil ?_
        rintro W9 ⟨⟨nq, osq⟩, rfl⟩
        have HB9 := Sd.mk (below_then HB2.out (below_regrown w2 nq osq))
        go_wp2
        go_ret
        exact ⟨rfl, HB9.out⟩
      | true =>
        obtain rfl : r = b2 := HR2.out
        refine wp_region_quiet_below (by assumption) (by kernel_rfl) ?_
        repeat (go_big_quiet_step ((go_at_call 22; refine Calls.regrown_of (reffirst_any _ d HD.out))))
        refine wpQuiet_nil ?_
        rintro W9 ⟨⟨nq, osq⟩, rfl⟩
        have HB9 := Sd.mk (below_then HB2.out (below_regrown w2 nq osq))
        go_wp2
        go_ret
        exact ⟨rfl, HB9.out⟩
    · have hv0 : (c.view == 0) = false := by rw [beq_eq_false_iff_ne]; exact hv
      by_cases hn : 1 ≤ n ∧ n ≤ 7
      · obtain ⟨n', rfl⟩ : ∃ n' : Nat, n = (n' : Int) := ⟨n.toNat, by omega⟩
        have hn1 : 1 ≤ n' := by omega
        have hn7 : n' ≤ 7 := by omega
        obtain ⟨q, hq⟩ : ∃ q, q = Gat.fl n' := ⟨_, rfl⟩
        have hqn : q < n' := by have := Gat.fl_lt (n := n') (by omega); omega
        have HQ := Sd.mk (fun W => Gat.reffaults_any W n' (by omega) (by omega) q hq)
        obtain ⟨l, hl⟩ : ∃ l, goodF p c.sigs = l := ⟨_, rfl⟩
        obtain ⟨j, hj⟩ : ∃ j, l.length = j := ⟨_, rfl⟩
        have HJ := Sd.mk hj
        have HL := Sd.mk (show (if true = true then goodF p c.sigs else []) = l by rw [if_pos rfl]; exact hl)
        obtain ⟨b, hb⟩ : ∃ b, decide ((n' : Int) - (q : Int) ≤ (j : Int)) = b := ⟨_, rfl⟩
        have HR2 := Sd.mk (show r = b by
          rw [Bool.eq_iff_iff, HR.out, ← hb, decide_eq_true_eq, ← hj, ← hl]
          unfold HoldsC
          rw [if_neg hv, Int.toNat_natCast, ← hq]
          exact ⟨fun h => h.2.2, fun h => ⟨HRC.out, hn, h⟩⟩)
        have d0 : decide ((n' : Int) < 1) = false := decide_eq_false (by omega)
        have d0b : decide (n' < 1) = false := decide_eq_false (by omega)
        have d1 : decide (7 < (n' : Int)) = false := decide_eq_false (by omega)
        have d1b : decide (7 < n') = false := decide_eq_false (by omega)
        clear HR hl hj hq hv hn HRC HRR
        go_enter Try.func17, Try.ntmps17
        go_upto_region 1 with (fail)
        generalize w.heap.size = Bx at X0 ⊢
        generalize w.alloc _ = W1 at X0 HB ⊢
        have c0 := blk_at X0.out 0 _ rfl
        have c1 := blk_at X0.out 1 _ rfl
        have c2 := blk_at X0.out 2 _ rfl
        go_upto_region 3 with (first
          | (go_at_call 51; (with_reducible refine (HRT.out _ HB.out).mono ?_); rintro e w2 ⟨rfl, hb⟩; have HB2 := Sd.mk (below_then HB.out hb); have X2 := Sd.mk (blk_keep X0.out hb); clear hb))
        clear c0 c1 c2 X0 HB HRT
        have c0 := blk_at X2.out 0 _ rfl
        have c1 := blk_at X2.out 1 _ rfl
        have c2 := blk_at X2.out 2 _ rfl
        go_wp2_with (first
          | (go_at_call 15; (with_reducible refine (HGD.out _ HB2.out).mono ?_); rintro e w3 ⟨v, rfl, ho⟩; rw [HL.out] at ho; obtain ⟨A3, k3, rfl, -⟩ := ho.slice; rw [HJ.out]; have HB3 := Sd.mk (below_then HB2.out ho.bel); clear ho)
          | (go_at_call 19; (with_reducible refine (HQ.out _).mono ?_); rintro e w4 ⟨rfl, hw4⟩; obtain rfl := hw4.symm))
        go_ret
        exact ⟨by rw [HR2.out]; rfl, HB3.out⟩
      · obtain rfl : r = false := by
          cases r with
          | false => rfl
          | true =>
            have h := (HR.out.1 rfl).2
            rw [if_neg hv] at h
            exact absurd h.1 hn
        obtain ⟨b0, hb0⟩ : ∃ b, decide (n < 1) = b := ⟨_, rfl⟩
        obtain ⟨b1, hb1⟩ : ∃ b, decide (7 < n) = b := ⟨_, rfl⟩
        have hor : (b0 || b1) = true := by
          rw [← hb0, ← hb1]
          simp only [Bool.or_eq_true, decide_eq_true_eq]
          omega
        clear HR hv hn HGD
        go_enter Try.func17, Try.ntmps17
        go_upto_region 1 with (fail)
        generalize w.heap.size = Bx at X0 ⊢
        generalize w.alloc _ = W1 at X0 HB ⊢
        have c0 := blk_at X0.out 0 _ rfl
        have c1 := blk_at X0.out 1 _ rfl
        have c2 := blk_at X0.out 2 _ rfl
        go_upto_region 3 with (first
          | (go_at_call 51; (with_reducible refine (HRT.out _ HB.out).mono ?_); rintro e w2 ⟨rfl, hb⟩; have HB2 := Sd.mk (below_then HB.out hb); have X2 := Sd.mk (blk_keep X0.out hb); clear hb))
        clear c0 c1 c2 X0 HB HRT
        have c0 := blk_at X2.out 0 _ rfl
        cases b0 with
        | true =>
          go_wp2
          go_ret
          exact ⟨rfl, HB2.out⟩
        | false =>
          obtain rfl : b1 = true := hor
          go_wp2
          go_ret
          exact ⟨rfl, HB2.out⟩
/-- a certificate of a size that is looked at -/
def certFew (c : Cert) : Prop := c.sigs.length ≤ 10 ∧ c.block.size ≤ 50 ∧ ∀ s ∈ c.sigs, Sg.sigFew s
theorem catB_few : ∀ (l : List ByteArray) (b : ByteArray), (∀ t ∈ l, t.size ≤ 30) → (catB b l).size ≤ b.size + 30 * l.length
  | [], b, _ => by simp [catB]
  | t :: l, b, h => by
    have h1 := catB_few l (b ++ t) (fun u hu => h u (by simp [hu]))
    have h2 := h t (by simp)
    rw [Rp.app_size] at h1
    show (catB (b ++ t) l).size ≤ _
    rw [List.length_cons]; omega
theorem sigB_few {s : Sg.Sig} (h : Sg.sigFew s) : (sigB s).size ≤ 308 := by
  have := catB_few s.tags (num4 s.node ++ num4 (s.tags.length : Int)) h.2
  rw [Rp.app_size, num4_size, num4_size] at this
  have := h.1
  unfold sigB; omega
theorem sigsB_few : ∀ (l : List Sg.Sig) (b : ByteArray), (∀ t ∈ l, Sg.sigFew t) → (sigsB b l).size ≤ b.size + 308 * l.length
  | [], b, _ => by simp [sigsB]
  | t :: l, b, h => by
    have h1 := sigsB_few l (b ++ sigB t) (fun u hu => h u (by simp [hu]))
    have h2 := sigB_few (h t (by simp))
    rw [Rp.app_size] at h1
    show (sigsB (b ++ sigB t) l).size ≤ _
    rw [List.length_cons]; omega
theorem certB_few {c : Cert} (h : certFew c) : (certB c).size ≤ 9223372036854775807 := by
  have := sigsB_few c.sigs (num4 c.view ++ c.block ++ num4 (c.sigs.length : Int)) h.2.2
  rw [Rp.app_size, Rp.app_size, num4_size, num4_size] at this
  have h1 := h.1
  have h2 := h.2.1
  unfold certB; omega
theorem first_right : RightCert ⟨0, FB, []⟩ := ⟨⟨by decide, by decide⟩, FB_size, by simp, trivial, fun x hx => by simp at hx⟩
theorem sgk_nil (W : World) : Sl sgK W none 0 [] := ⟨Nat.le_refl _, by omega, fun i x hx => by simp at hx⟩
theorem first_holds (w : World) (d : ByteArray) (hd : FB = d) : Calls Try.prog 16 #[.string { data := #[] }, .int .i64 0, .int .i64 1, .agg #[.int .i64 0, .string d, .slice none 0 0]] w fun e w' => e = .returned (.bool true) ∧ RowKit.Below w.heap.size w w' := by
  subst hd
  exact holds_0 w { data := #[] } 0 1 ⟨0, FB, []⟩ none 0 (sgk_nil w) 0 rfl (certB_few ⟨by simp, by show FB.size ≤ 50; rw [FB_size]; omega, fun s hs => by simp at hs⟩) rfl true ⟨fun _ => ⟨first_right, rfl, rfl⟩, fun _ => rfl⟩
set_option maxHeartbeats 4000000 in
theorem awake_any (w : World) : Calls Try.prog 12 #[] w fun e w' => e = .returned (.bool true) ∧ RowKit.Below w.heap.size w w' := by
  obtain ⟨d, hd⟩ : ∃ d, FB = d := ⟨_, rfl⟩
  have hd32 : d.size = 32 := by rw [← hd]; exact FB_size
  have HD := Sd.mk hd
  have d32 : ((d.size : Int) == 32) = true := by rw [hd32]; rfl
  have d32b : (d.size == 32) = true := by rw [hd32]; rfl
  have hfc := fun W => field_cert W d
  clear hd hd32
  go_enter Try.func12, Try.ntmps12
  go_wp2_with (first
    | (go_at_call 21; (with_reducible refine (first_any _ d HD.out).mono ?_); rintro e w1 ⟨rfl, hb⟩; (first | (have HB3 := Sd.mk (below_then HB2.out hb)) | have HB1 := Sd.mk hb); clear hb)
    | (go_at_call 16; (with_reducible refine (first_holds _ d HD.out).mono ?_); rintro e w2 ⟨rfl, hb⟩; have HB2 := Sd.mk (below_then HB1.out hb); clear hb))
  go_ret
  exact ⟨rfl, HB3.out⟩
end Go.Proofs.Ytdmdfpbklflijaa.Crt
