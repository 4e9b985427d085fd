/- CertHolds: walked. -/
import Derived.Test.YtdmdfpbklflijaaCop
import Derived.Deep.RegionHeld3
set_option linter.unusedVariables false
set_option linter.unusedSimpArgs false
namespace Go.Proofs.Ytdmdfpbklflijaa.Crt
open Go.RowKit Go.Sort Rd Api Own Mv App Num Dig Mac Rp

/-- behind a world -/
structure Since (W0 W : World) : Prop where
  b : RowKit.Below W0.heap.size W0 W
theorem Since.then {W0 W W1 : World} (h : Since W0 W) (hb : RowKit.Below W.heap.size W W1) : Since W0 W1 := ⟨below_then h.b hb⟩
theorem Since.cell {W0 W : World} (h : Since W0 W) {a : Addr} {v : Value} (hc : W0.cell? a = some v) : W.cell? a = some v := cell_below h.b hc
theorem since_drew (W : World) : Since W W.drew := ⟨below_drew' (Below.refl _ _)⟩
theorem num_get {W : World} {A : Option Addr} {c : Nat} {l : List Int} (h : Sl (Own.num .i64) W A c l) {i : Nat} {x : Int} (hx : l[i]? = some x) : ∃ b o, A = some ⟨b, o, none⟩ ∧ W.cell? ⟨b, o + i, none⟩ = some (.int .i64 x) := by
  obtain ⟨hi, rfl⟩ := List.getElem?_eq_some_iff.1 hx
  exact num_at h.row hi
set_option maxHeartbeats 8000000 in
set_option maxRecDepth 100000 in
theorem certholds_law (w : World) (seed : ByteArray) (c : Cert) (A : Option Addr) (k : Nat) (hs0 : Sl sgK w A k c.sigs) (m : Nat) (hm : m = c.sigs.length) (tn n : Int) :
    Calls Try.prog 3 #[.string seed, .agg #[.int .i64 c.view, .string c.block, .slice A m k], .agg #[.int .i64 tn, .int .i64 n]] w fun e w' => e = .returned (.bool true) ∧ RowKit.Below w.heap.size w w' := by
  have mixed : Try.prog.follows .mixedOrders = true := by kernel_rfl
  have hb0 := below_one w (.cells #[.int .i64 c.view, .string c.block, .slice A m k] 24)
  have hb1 := below_one (w.alloc (.cells #[.int .i64 c.view, .string c.block, .slice A m k] 24)) (.cells #[.int .i64 tn, .int .i64 n] 25)
  have HB := Sd.mk (below_then hb0 hb1)
  have HS := Sd.mk ((hs0.below hb0).below hb1)
  have X0 := Sd.mk (blk_keep (blk_new w (.cells #[.int .i64 c.view, .string c.block, .slice A m k] 24)) hb1)
  have Y0 := Sd.mk (blk_new1 w (.cells #[.int .i64 c.view, .string c.block, .slice A m k] 24) (.cells #[.int .i64 tn, .int .i64 n] 25))
  have mk := Nat.le_trans hs0.le hs0.cap
  rw [← hm] at mk
  have HM := Sd.mk hm
  clear hs0 hm hb0 hb1
  by_cases h60 : 60 < seed.size
  · have d0 : decide ((60 : Int) < (seed.size : Int)) = true := decide_eq_true (by omega)
    clear h60
    go_enter Try.func3, Try.ntmps3
    go_upto_region 1 with (fail)
    generalize (w.alloc _).alloc _ = W1 at X0 Y0 HB HS ⊢
    go_wp2_with (first
      | (go_at_call 12; (with_reducible refine (awake_any _).mono ?_); rintro e w2 ⟨rfl, hb⟩; (first | (have HB3 := Sd.mk (below_then HB2.out hb)) | have HB2 := Sd.mk (below_then HB.out hb)); clear hb))
    go_ret
    exact ⟨rfl, HB3.out⟩
  · have d0 : decide ((60 : Int) < (seed.size : Int)) = false := decide_eq_false (by omega)
    have hsd : seed.size ≤ 35184372088832 := by omega
    go_enter Try.func3, Try.ntmps3
    go_upto_region 1 with (fail)
    generalize hB5 : w.heap.size + 1 = B5 at Y0 ⊢
    generalize hB4 : w.heap.size = B4 at X0 ⊢
    generalize (w.alloc _).alloc _ = W1 at X0 Y0 HB HS ⊢
    have c0 := blk_at X0.out 0 _ rfl
    have c1 := blk_at X0.out 1 _ rfl
    have c2 := blk_at X0.out 2 _ rfl
    go_wp2_with (first
      | (go_at_call 12; (with_reducible refine (awake_any _).mono ?_); rintro e w2 ⟨rfl, hb⟩; (first | (have HB4 := Sd.mk (below_then HB3.out hb)) | (have HB2 := Sd.mk (below_then HB.out hb); have X2 := Sd.mk (blk_keep X0.out hb); have Y2 := Sd.mk (blk_keep Y0.out hb); have HS2 := Sd.mk (HS.out.below hb); have c0 := blk_at X2.out 0 _ rfl; have c1 := blk_at X2.out 1 _ rfl; have c2 := blk_at X2.out 2 _ rfl)); clear hb)
      | (go_at_call 13; (with_reducible refine (few_any _ c A k HS2.out m HM.out).mono ?_); rintro e w3 ⟨r, rfl, ht, hb⟩; have HB3 := Sd.mk (below_then HB2.out hb); have X3 := Sd.mk (blk_keep X2.out hb); have Y3 := Sd.mk (blk_keep Y2.out hb); have HS3 := Sd.mk (HS2.out.below hb); have HFW := Sd.mk ht; clear ht hb; cases r))
    · go_ret
      exact ⟨rfl, HB4.out⟩
    clear HB HB2 X0 X2 Y0 Y2 HS HS2 c0 c1 c2 d0
    have HCF := Sd.mk (show certFew c from HFW.out trivial)
    have HCZ := Sd.mk (certB_few HCF.out)
    obtain ⟨p, hp⟩ := tells seed tn n c
    have HP := Sd.mk hp
    obtain ⟨rr, hrr⟩ : ∃ b : Bool, b = true ↔ RightCert c := ⟨@decide (RightCert c) (Classical.propDecidable _), by simp⟩
    obtain ⟨rh, hrh⟩ : ∃ b : Bool, b = true ↔ HoldsC p n c := ⟨@decide (HoldsC p n c) (Classical.propDecidable _), by simp⟩
    obtain ⟨l, hl⟩ : ∃ l, (if rr = true then goodF p c.sigs else []) = l := ⟨_, rfl⟩
    have HG := Sd.mk (fun W (hW : RowKit.Below w3.heap.size w3 W) => good_any W seed hsd tn n c A k (HS3.out.below hW) m HM.out HCZ.out p HP.out rr hrr)
    have HRG := Sd.mk (fun W (hW : RowKit.Below w3.heap.size w3 W) => refgood_any W seed hsd tn n c A k (HS3.out.below hW) m HM.out p HP.out rr hrr)
    have HH := Sd.mk (fun W (hW : RowKit.Below w3.heap.size w3 W) => certholds_any W seed hsd tn n c A k (HS3.out.below hW) m HM.out HCZ.out p HP.out rh hrh)
    have HRH := Sd.mk (fun W (hW : RowKit.Below w3.heap.size w3 W) => refholds_any W seed hsd tn n c A k (HS3.out.below hW) m HM.out p HP.out rh hrh)
    rw [hl] at HG HRG
    have hlm : l.length ≤ 10 := by
      rw [← hl]
      split
      · exact Nat.le_trans (good_le _ _) HCF.out.1
      · exact Nat.zero_le _
    obtain ⟨j, hj⟩ : ∃ j, l.length = j := ⟨_, rfl⟩
    rw [hj] at hlm
    have HJ := Sd.mk hj
    clear hp hrr hrh hl hj
    have y0 := blk_at Y3.out 0 _ rfl
    have y1 := blk_at Y3.out 1 _ rfl
    go_quiet (fail)
    go_wp2
    clear y0 y1
    have hw3 : Since w3 (w3.drewN nq) := ⟨below_drewN (Below.refl _ _) nq⟩
    have X4 := Sd.mk (blk_keep X3.out hw3.b)
    have HW4 := Sd.mk hw3
    clear hw3
    generalize w3.drewN nq = W4 at X4 HW4 ⊢
    have c0d := blk_at (blk_keep X4.out (since_drew W4).b) 0 _ rfl
    have c1d := blk_at (blk_keep X4.out (since_drew W4).b) 1 _ rfl
    have c2d := blk_at (blk_keep X4.out (since_drew W4).b) 2 _ rfl
    have HWD := Sd.mk (HW4.out.then (since_drew W4).b)
    have HKP := Sd.mk (fun W (h : Since w3 W) => show W.cell? ⟨B4, 0, none⟩ = some (.int .i64 c.view) ∧ W.cell? ⟨B4, 1, none⟩ = some (.string c.block) ∧ W.cell? ⟨B4, 2, none⟩ = some (.slice A m k) ∧ Since w3 W from ⟨h.cell (blk_at X3.out 0 _ rfl), h.cell (blk_at X3.out 1 _ rfl), h.cell (blk_at X3.out 2 _ rfl), h⟩)
    go_region_held3 (fun W => W.cell? ⟨B4, 0, none⟩ = some (.int .i64 c.view) ∧ W.cell? ⟨B4, 1, none⟩ = some (.string c.block) ∧ W.cell? ⟨B4, 2, none⟩ = some (.slice A m k) ∧ Since w3 W) (first | exact HKP.out _ HWD.out | exact HKP.out _ HW7.out | exact HKP.out _ HW6.out | fail) (first
        | (go_at_call 14; (with_reducible refine (HG.out _ HWD.out.b).mono ?_); rintro e w6 ⟨v6, rfl, ho6⟩; obtain ⟨A6, k6, rfl, hs6⟩ := ho6.slice; rw [HJ.out]; have HW6 := Sd.mk (HWD.out.then ho6.bel); have HL6 := Sd.mk hs6; clear ho6 hs6)
        | (go_at_call 15; (with_reducible refine (HRG.out _ HW6.out.b).mono ?_); rintro e w7 ⟨v7, rfl, ho7⟩; obtain ⟨A7, k7, rfl, hs7⟩ := ho7.slice; rw [HJ.out]; have HW7 := Sd.mk (HW6.out.then ho7.bel); have HL7 := Sd.mk hs7; have HL8 := Sd.mk (HL6.out.below ho7.bel); clear ho7 hs7)
        | fail)
    all_goals
      clear c0d c1d c2d HWD HKP HW4 X4 HG HRG HL6
      have n1 := Nat.le_trans HL7.out.le HL7.out.cap
      rw [HJ.out] at n1
      go_wp2
      go_loopg [11] j (fun gk v11 wr => ∃ i, i + gk = j ∧ v11 = .int .i64 (i : Nat) ∧ Sd (RowKit.Below w7.heap.size w7 wr))
      case atStart => exact ⟨0, by omega, rfl, ⟨Below.refl _ _⟩⟩
      case round =>
        obtain ⟨i, hi, rfl, HW⟩ := hrel
        by_cases hlt : i < j
        · have hii : (i : Int) < j := by omega
          obtain ⟨x, hx⟩ : ∃ x, l[i]? = some x := ⟨_, List.getElem?_eq_getElem (show i < l.length by rw [HJ.out]; exact hlt)⟩
          obtain ⟨b1, o1, rfl, p0⟩ := num_get HL8.out hx
          obtain ⟨b2, o2, rfl, q0⟩ := num_get HL7.out hx
          have p0 := cell_below HW.out p0
          have q0 := cell_below HW.out q0
          clear hx
          go_upto_region 10 with (fail)
          go_quiet (fail)
          go_wp2
          go_roundg (gk - 1)
          case measure => omega
          case rel => exact ⟨i + 1, by omega, by go_num, ⟨below_drewN HW.out _⟩⟩
        · have hii : decide (i < j) = false := decide_eq_false (by omega)
          have hii2 : decide ((i : Int) < (j : Int)) = false := decide_eq_false (by omega)
          have HW8 := Sd.mk (HW7.out.then HW.out)
          have X8 := Sd.mk (blk_keep X3.out HW8.out.b)
          have x0 := fun d os => cell_regrown (blk_at X8.out 0 _ rfl) d os
          have x1 := fun d os => cell_regrown (blk_at X8.out 1 _ rfl) d os
          have x2 := fun d os => cell_regrown (blk_at X8.out 2 _ rfl) d os
          go_upto_region 12 with (fail)
          refine wp_region_quiet_below (by assumption) (by kernel_rfl) ?_
          repeat (go_big_quiet_step ((first
            | (go_at_call 16; refine Calls.regrown_of (HH.out _ (HW8.out.then (below_regrown _ _ _)).b))
            | (go_at_call 17; refine Calls.regrown_of (HRH.out _ (HW8.out.then (below_regrown _ _ _)).b)))))
          refine wpQuiet_nil ?_
          rintro W9 ⟨⟨nq, osq⟩, rfl⟩
          have HB9 := Sd.mk (below_then HB3.out (HW8.out.then (below_regrown _ nq osq)).b)
          go_wp2
          go_ret
          exact ⟨by simp, HB9.out⟩
theorem ch_row (w : World) (seed : ByteArray) (hs : seed.size ≤ 140737488351232) (x : Cert) (cs : Array Value) (hc : certK.K w x cs.toList) (l : List Int) (ds : Array Value) (h : (Rk.arr (Rk.int .i64) 2).K w l ds.toList) :
    Calls Try.prog 3 #[.string seed, .agg cs, .agg ds] w fun e w' => e = .returned (.bool true) ∧ RowKit.Below w.heap.size w w' := by
  obtain ⟨a, b, hd, -, -⟩ := Arr.two_ints h
  obtain ⟨A, c, he, -, hsl⟩ := cert_open hc
  obtain rfl := Api.arr_of hd
  obtain rfl := Api.arr_of he
  exact certholds_law w seed x A c (sg_of hsl) _ rfl a b
end Go.Proofs.Ytdmdfpbklflijaa.Crt
