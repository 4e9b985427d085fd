/- The reference's right certificates: walked. -/
import Derived.Test.YtdmdfpbklflijaaRefR
set_option linter.unusedVariables false
set_option linter.unusedSimpArgs false
namespace Go.Proofs.Ytdmdfpbklflijaa.Rp
open Go.RowKit Go.Sort Rd Api Own Mv App Num

set_option maxHeartbeats 8000000 in
set_option maxRecDepth 100000 in
theorem refright_any (w : World) (c : Cert) (A : Option Addr) (k : Nat) (h : Sl sgK w A k c.sigs) (n : Nat) (hn : n = c.sigs.length) (r : Bool) (hr : r = true ↔ RightCert c) :
    Calls Try.prog 51 #[.agg #[.int .i64 c.view, .string c.block, .slice A n k]] w fun e w' => e = .returned (.bool r) ∧ RowKit.Below w.heap.size w w' := by
  have mixed : Try.prog.follows .mixedOrders = true := by kernel_rfl
  have hb0 := below_one w (.cells #[.int .i64 c.view, .string c.block, .slice A n k] 24)
  have HB := Sd.mk hb0
  have HS := Sd.mk (h.below hb0)
  have X0 := Sd.mk (blk_new w (.cells #[.int .i64 c.view, .string c.block, .slice A n k] 24))
  have nc := Nat.le_trans h.le h.cap
  rw [← hn] at nc
  have HN := Sd.mk hn
  have HR := Sd.mk (hr.trans (right_parts c))
  clear h hn hr hb0
  obtain ⟨b0, hd0⟩ : ∃ b, decide (c.view < 0) = b := ⟨_, rfl⟩
  obtain ⟨b1, hd1⟩ : ∃ b, decide (1000000 < c.view) = b := ⟨_, rfl⟩
  obtain ⟨b2, hd2⟩ : ∃ b, ((c.block.size : Int) != 32) = b := ⟨_, rfl⟩
  obtain ⟨b3, hd3⟩ : ∃ b, decide (7 < (n : Int)) = b := ⟨_, rfl⟩
  have hd4 : decide (7 < n) = b3 := by rw [← hd3]; simp only [decide_eq_decide]; omega
  have HQ := Sd.mk (show (0 ≤ c.view ∧ c.view ≤ 1000000 ∧ c.block.size = 32 ∧ c.sigs.length ≤ 7) ↔ (b0 || b1 || b2 || b3) = false by
    rw [← HN.out, ← hd0, ← hd1, ← hd2, ← hd3]
    simp only [Bool.or_eq_false_iff, decide_eq_false_iff_not, bne_eq_false_iff_eq]
    omega)
  cases hall : (b0 || b1 || b2 || b3) with
  | true =>
    -- <A
    obtain rfl : r = false := by
      cases r with
      | false => rfl
      | true => have := HQ.out.1 (HR.out.1 rfl).1; rw [hall] at this; cases this
    clear HQ HR
    go_enter Try.func51, Try.ntmps51
    go_upto_region 1 with (fail)
    generalize w.heap.size = Bx at X0 ⊢
    generalize w.alloc _ = W1 at X0 HB HS ⊢
    have c0 := blk_at X0.out 0 _ rfl
    have c1 := blk_at X0.out 1 _ rfl
    have c2 := blk_at X0.out 2 _ rfl
    cases b0 with
    | true => go_wp2; go_ret; exact ⟨rfl, HB.out⟩
    | false =>
      cases b1 with
      | true => go_wp2; go_ret; exact ⟨rfl, HB.out⟩
      | false =>
        cases b2 with
        | true => go_wp2; go_ret; exact ⟨rfl, HB.out⟩
        | false =>
          obtain rfl : b3 = true := hall
          go_wp2
          go_ret
          exact ⟨rfl, HB.out⟩
    -- A>
  | false =>
    simp only [Bool.or_eq_false_iff] at hall
    obtain ⟨⟨⟨rfl, rfl⟩, rfl⟩, rfl⟩ := hall
    have hn7 : n ≤ 7 := by have := of_decide_eq_false hd4; omega
    have HR2 := Sd.mk (show r = true ↔ Rt1 c.sigs n by
      rw [HR.out]
      unfold Rt1
      rw [List.take_of_length_le (by rw [← HN.out]; exact Nat.le_refl _)]
      exact ⟨fun h => h.2, fun h => ⟨HQ.out.2 rfl, h⟩⟩)
    have HR3 := Sd.mk (show r = true → ∀ i, Rt1 c.sigs i from fun h i => rt1_all _ i (HR.out.1 h).2)
    clear HQ HR
    go_enter Try.func51, Try.ntmps51
    go_upto_region 1 with (fail)
    generalize w.heap.size = Bx at X0 ⊢
    generalize w.alloc _ = W1 at X0 HB HS ⊢
    have c0 := blk_at X0.out 0 _ rfl
    have c1 := blk_at X0.out 1 _ rfl
    have c2 := blk_at X0.out 2 _ rfl
    go_wp2
    clear c0 c1 c2
    go_loopg [3] n (fun gk v3 wr => ∃ i, i + gk = n ∧ v3 = .int .i64 (i : Nat) ∧ Sd (Rt1 c.sigs i) ∧ Sd (RowKit.Below W1.heap.size W1 wr))
    case atStart => exact ⟨0, by omega, rfl, ⟨trivial, fun x hx => by simp at hx⟩, ⟨Below.refl _ _⟩⟩
    case round =>
      obtain ⟨i, hi, rfl, HA, HW⟩ := hrel
      have c2 := blk_at (blk_keep X0.out HW.out) 2 _ rfl
      by_cases hlt : i < n
      · have hii : (i : Int) < n := by omega
        obtain ⟨x, hx⟩ : ∃ x, c.sigs[i]? = some x := ⟨_, List.getElem?_eq_getElem (show i < c.sigs.length by rw [← HN.out]; exact hlt)⟩
        obtain ⟨o1, o2, A1, c1, rfl, p0, p1, s1⟩ := sg_at HS.out hx
        have HX := Sd.mk hx
        have c2' := fun d os => cell_regrown (blk_at (blk_keep X0.out HW.out) 2 _ rfl) d os
        have p0' := fun d os => cell_regrown (cell_below HW.out p0) d os
        have p1' := fun d os => cell_regrown (cell_below HW.out p1) d os
        obtain ⟨rs, hrs⟩ : ∃ r : Bool, r = true ↔ RightSig x := ⟨@decide (RightSig x) (Classical.propDecidable _), by simp⟩
        have HRS := Sd.mk hrs
        have HSS := Sd.mk (s1.below HW.out)
        clear hx hrs s1 p0 p1
        cases rs with
        | false =>
          -- <B
          obtain rfl : r = false := by
            cases r with
            | false => rfl
            | true =>
              have h := ((rt1_snoc HX.out).1 (HR3.out rfl (i + 1))).2.1
              have := HRS.out.2 h; cases this
          go_upto_region 6 with (fail)
          clear c2
          refine wp_region_quiet_below (by assumption) (by kernel_rfl) ?_
          repeat (go_big_quiet_step ((go_at_call 86; refine Calls.regrown_of (refsig_any _ x A1 c1 (HSS.out.below (below_regrown _ _ _)) _ rfl false HRS.out))))
          refine wpQuiet_nil ?_
          rintro W9 ⟨⟨nq, osq⟩, rfl⟩
          have HB9 := Sd.mk (below_then HW.out (below_regrown wr nq osq))
          go_wp2
          go_ret
          exact ⟨rfl, below_then HB.out HB9.out⟩
          -- B>
        | true =>
          have HRX := Sd.mk (HRS.out.1 rfl)
          by_cases hi0 : i = 0
          ·
            -- <C
            subst hi0
            have HA2 := Sd.mk ((rt1_snoc HX.out).2 ⟨HA.out, HRX.out, by show (-1 : Int) < x.node; have := HRX.out.1; omega⟩)
            have z0 : (0 : Int) < (n : Int) := by omega
            simp only [Nat.zero_mul, Nat.add_zero] at p0' p1'
            rw [show ((0 : Nat) : Int) = 0 from rfl]
            go_upto_region 6 with (fail)
            clear c2
            refine wp_region_quiet_below (by assumption) (by kernel_rfl) ?_
            repeat (go_big_quiet_step ((go_at_call 86; refine Calls.regrown_of (refsig_any _ x A1 c1 (HSS.out.below (below_regrown _ _ _)) _ rfl true HRS.out))))
            refine wpQuiet_nil ?_
            rintro W9 ⟨⟨nq, osq⟩, rfl⟩
            have HB9 := Sd.mk (below_then HW.out (below_regrown wr nq osq))
            go_wp2
            go_roundg (gk - 1)
            case measure => omega
            case rel => exact ⟨1, by omega, rfl, HA2, HB9⟩
            -- C>
          ·
            -- <D
            obtain ⟨j, hj⟩ : ∃ j, j = i - 1 := ⟨_, rfl⟩
            obtain ⟨y, hy⟩ : ∃ y, c.sigs[j]? = some y := ⟨_, List.getElem?_eq_getElem (show j < c.sigs.length by rw [← HN.out]; omega)⟩
            obtain ⟨o3, o4, A3, c3, e3, q0, -, -⟩ := sg_at HS.out hy
            simp only [Option.some.injEq, Addr.mk.injEq, and_true] at e3
            obtain ⟨rfl, rfl⟩ := e3
            have q0' := fun d os => cell_regrown (cell_below HW.out q0) d os
            have HL := Sd.mk (show lastOf (-1) (c.sigs.take i) = y.node by have := lastOf_take hy; rwa [show j + 1 = i by omega] at this)
            have d0 : decide ((0 : Int) < (i : Int)) = true := decide_eq_true (by omega)
            have d0b : decide (0 < i) = true := decide_eq_true (by omega)
            have d1 : IntKind.i64.wrap ((i : Int) - 1) = (j : Int) := by rw [IntKind.wrap_i64]; omega
            have hjn : (j : Int) < n := by omega
            have hjn2 : j < n := by omega
            obtain ⟨rl, hrl⟩ : ∃ b, decide (x.node ≤ y.node) = b := ⟨_, rfl⟩
            have HRL := Sd.mk hrl
            clear hy q0 hj
            go_upto_region 6 with (fail)
            clear c2
            refine wp_region_quiet_below (by assumption) (by kernel_rfl) ?_
            repeat (go_big_quiet_step ((go_at_call 86; refine Calls.regrown_of (refsig_any _ x A1 c1 (HSS.out.below (below_regrown _ _ _)) _ rfl true HRS.out))))
            refine wpQuiet_nil ?_
            rintro W9 ⟨⟨nq, osq⟩, rfl⟩
            have HB9 := Sd.mk (below_then HW.out (below_regrown wr nq osq))
            clear c2' p0' p1' q0'
            cases rl with
            | true =>
              obtain rfl : r = false := by
                cases r with
                | false => rfl
                | true =>
                  have h := ((rt1_snoc HX.out).1 (HR3.out rfl (i + 1))).2.2
                  rw [HL.out] at h
                  have := of_decide_eq_true HRL.out; omega
              go_wp2
              go_ret
              exact ⟨rfl, below_then HB.out HB9.out⟩
            | false =>
              have HA2 := Sd.mk ((rt1_snoc HX.out).2 ⟨HA.out, HRX.out, by rw [HL.out]; have := of_decide_eq_false HRL.out; omega⟩)
              go_wp2
              go_roundg (gk - 1)
              case measure => omega
              case rel => exact ⟨i + 1, by omega, by go_num, HA2, HB9⟩
            -- D>
      · have hii : decide (i < n) = false := decide_eq_false (by omega)
        obtain rfl : i = n := by omega
        obtain rfl : r = true := HR2.out.2 HA.out
        go_wp2
        go_ret
        exact ⟨rfl, below_then HB.out HW.out⟩
end Go.Proofs.Ytdmdfpbklflijaa.Rp
