/- Certificates: the reference's Text, First, Good: walked. -/
import Derived.Test.YtdmdfpbklflijaaCrtH
import Derived.Test.YtdmdfpbklflijaaRefQ
set_option linter.unusedVariables false
set_option linter.unusedSimpArgs false
namespace Go.Proofs.Ytdmdfpbklflijaa.Crt
open Go.RowKit Go.Sort Rd Api Own Mv App Num Dig Mac Rp

set_option maxHeartbeats 1000000 in
theorem reftext_any (w : World) (view : Int) (b : ByteArray) (hb : b.size ≤ 70368744177664) (t : ByteArray) (ht : vtxt view b = t) : Calls Try.prog 24 #[.int .i64 view, .string b] w fun e w' => e = .returned (.string t) ∧ RowKit.Below w.heap.size w w' := by
  obtain ⟨n, hn⟩ : ∃ n, num4 view = n := ⟨_, rfl⟩
  have hn4 : n.size = 4 := by rw [← hn]; exact num4_size _
  have hcat : ¬9223372036854775807 < 1 + n.size := by omega
  have hcat2 : ¬9223372036854775807 < (({ data := #[86] } : ByteArray) ++ n).size + b.size := by rw [show (({ data := #[86] } : ByteArray) ++ n).size = 1 + n.size from Rp.app_size _ _]; omega
  have hcat3 : ¬9223372036854775807 < 1 + n.size + b.size := by omega
  have HN := Sd.mk hn
  have HT := Sd.mk (show VB ++ n ++ b = t by rw [← ht, ← hn]; rfl)
  clear hn hn4 ht
  go_enter Try.func24, Try.ntmps24
  go_wp2_with (first
    | (go_at_call 58; (with_reducible refine (Num.ref_number_any _ _).mono ?_); rintro e w1 ⟨rfl, hb1⟩; rw [HN.out]))
  go_ret
  exact ⟨by rw [← HT.out]; rfl, hb1⟩
theorem refsum_first (w : World) (d : ByteArray) (hd : FB = d) : Calls Try.prog 27 #[.string { data := #[] }, .string { data := #[102, 105, 114, 115, 116] }] w fun e w' => e = .returned (.string d) ∧ RowKit.Below w.heap.size w w' := by
  subst hd; exact ref0_any w FIRST (by decide)
set_option maxHeartbeats 1000000 in
theorem reffirst_any (w : World) (d : ByteArray) (hd : FB = d) : Calls Try.prog 22 #[] w fun e w' => e = .returned (.string d) ∧ RowKit.Below w.heap.size w w' := by
  go_enter Try.func22, Try.ntmps22
  go_wp2_with (first
    | (go_at_call 27; (with_reducible refine (refsum_first _ d hd).mono ?_); rintro e w1 ⟨rfl, hb⟩; have HB := Sd.mk hb; clear hb))
  go_ret
  exact ⟨rfl, HB.out⟩
theorem endF_in {i : Int} (h0 : 0 ≤ i) (h1 : i ≤ 20) : endF i = i := by unfold endF; rw [if_neg (by omega)]
theorem all16_of {l : List ByteArray} (h : ∀ t ∈ l, t.size = 16) : all16 l := fun j hj => h _ (List.getElem_mem hj)
set_option maxHeartbeats 8000000 in
set_option maxRecDepth 100000 in
theorem refgood_any (w : World) (seed : ByteArray) (hsd : seed.size ≤ 35184372088832) (tn n : Int) (c : Cert) (A : Option Addr) (k : Nat) (h : Sl sgK w A k c.sigs) (m : Nat) (hm : m = c.sigs.length) (p : Sg.Sig → Bool) (hp : Tells seed tn n c p) (r : Bool) (hr : r = true ↔ RightCert c) :
    Calls Try.prog 15 #[.string seed, .int .i64 tn, .int .i64 n, .agg #[.int .i64 c.view, .string c.block, .slice A m k]] w fun e w' => ∃ v, e = .returned v ∧ Og w v (if r = true then goodF p c.sigs else []) w' := by
  have mixed : Try.prog.follows .mixedOrders = true := by kernel_rfl
  have hb0 := below_one w (.cells #[.int .i64 c.view, .string c.block, .slice A m k] 24)
  have HB := Sd.mk hb0
  have HS := Sd.mk (h.below hb0)
  have X0 := Sd.mk (blk_new w (.cells #[.int .i64 c.view, .string c.block, .slice A m k] 24))
  have HM := Sd.mk hm
  have mk := Nat.le_trans h.le h.cap
  rw [← hm] at mk
  have HRT := Sd.mk (refright_any (w.alloc (.cells #[.int .i64 c.view, .string c.block, .slice A m k] 24)) c A k HS.out m hm r hr)
  have HP := Sd.mk hp
  have HR := Sd.mk hr
  clear h hm hp hr hb0
  by_cases hall : r = true ∧ (1 ≤ n ∧ n ≤ 7) ∧ (0 ≤ tn ∧ tn < n)
  · obtain ⟨rfl, hn, ht⟩ := hall
    have hrc := HR.out.1 rfl
    have hm7 : m ≤ 7 := by rw [HM.out]; exact hrc.n
    obtain ⟨n', rfl⟩ : ∃ n' : Nat, n = (n' : Int) := ⟨n.toNat, by omega⟩
    obtain ⟨t', rfl⟩ : ∃ t' : Nat, tn = (t' : Int) := ⟨tn.toNat, by omega⟩
    obtain ⟨tx, htx⟩ : ∃ tx, vtxt c.view c.block = tx := ⟨_, rfl⟩
    have htz : tx.size ≤ 35184372088832 := by rw [← htx, vtxt_size, hrc.b]; omega
    have HT := Sd.mk htx
    have HTZ := Sd.mk htz
    have HBZ := Sd.mk (show c.block.size ≤ 70368744177664 by rw [hrc.b]; omega)
    have HALL := Sd.mk hrc.all
    have hn1 : 1 ≤ n' := by omega
    have hn7 : n' ≤ 7 := by omega
    have htn : t' < n' := by omega
    have d0 : decide ((n' : Int) < 1) = false := decide_eq_false (by omega)
    have d0b : decide (n' < 1) = false := decide_eq_false (by omega)
    have d1 : decide (7 < (n' : Int)) = false := decide_eq_false (by omega)
    have d1b : decide (7 < n') = false := decide_eq_false (by omega)
    have d2 : decide ((t' : Int) < 0) = false := decide_eq_false (by omega)
    have d3 : decide ((n' : Int) ≤ (t' : Int)) = false := decide_eq_false (by omega)
    have d3b : decide (n' ≤ t') = false := decide_eq_false (by omega)
    clear hrc htx htz hn ht
    go_enter Try.func15, Try.ntmps15
    go_upto_region 1 with (fail)
    generalize w.heap.size = Bx at X0 ⊢
    generalize w.alloc _ = W1 at X0 HB HS HRT ⊢
    have c0 := blk_at X0.out 0 _ rfl
    have c1 := blk_at X0.out 1 _ rfl
    have c2 := blk_at X0.out 2 _ rfl
    go_upto_region 4 with (first
      | (go_at_call 51; (with_reducible refine HRT.out.mono ?_); rintro e w2 ⟨rfl, hb⟩; have HB2 := Sd.mk (below_then HB.out hb); have X2 := Sd.mk (blk_keep X0.out hb); have HS2 := Sd.mk (HS.out.below hb); clear hb))
    clear HRT HB X0 HS c0 c1 c2 d0 d0b d1 d1b d2 d3 d3b
    go_wp2
    have H0 := Sd.mk (show Og w2 (.slice none 0 0) (goodF p (c.sigs.take 0)) w2 from ⟨OwnR.nil _ _ _ _ _, Below.refl _ _⟩)
    go_loopg [9, 10, 11] m (fun gk v9 v10 v11 wr => ∃ (i : Nat) (B : Option Addr) (q d : Nat), i + gk = m ∧ q ≤ i ∧ v9 = .slice B q d ∧ v10 = .int .i64 (i : Nat) ∧ Sd ((goodF p (c.sigs.take i)).length = q) ∧ Sd (Og w2 (.slice B q d) (goodF p (c.sigs.take i)) wr))
    case atStart => exact ⟨0, none, 0, 0, by omega, by omega, rfl, rfl, ⟨rfl⟩, H0⟩
    case round =>
      clear H0
      obtain ⟨i, B, q, d, hi, hqi, rfl, rfl, HK, HO⟩ := hrel
      have HW := Sd.mk HO.out.bel
      have c2 := blk_at (blk_keep X2.out HW.out) 2 _ rfl
      by_cases hlt : i < m
      · have hii : (i : Int) < m := by omega
        obtain ⟨x, hx⟩ : ∃ x, c.sigs[i]? = some x := ⟨_, List.getElem?_eq_getElem (show i < c.sigs.length by rw [← HM.out]; exact hlt)⟩
        obtain ⟨o1, o2, A1, c1, rfl, p0, p1, s1⟩ := sg_at HS2.out hx
        have p0 := cell_below HW.out p0
        have p1 := cell_below HW.out p1
        have S1 := Sd.mk (s1.below HW.out)
        have X3 := Sd.mk (blk_keep X2.out HW.out)
        have HX := Sd.mk hx
        have hrs := HALL.out x (List.mem_of_getElem? hx)
        have xc := Nat.le_trans s1.le s1.cap
        obtain ⟨l, hl⟩ : ∃ l, l = x.tags.length := ⟨_, rfl⟩
        have HLN := Sd.mk hl
        obtain ⟨b0, hb0⟩ : ∃ b, decide (x.node < (n' : Int)) = b := ⟨_, rfl⟩
        obtain ⟨b1, hb1⟩ : ∃ b, ((l : Int) == (n' : Int)) = b := ⟨_, rfl⟩
        obtain ⟨u, hu⟩ : ∃ u, mtag seed x.node (t' : Int) tx = u := ⟨_, rfl⟩
        have HU := Sd.mk hu
        obtain ⟨rp, hrp⟩ : ∃ b, p x = b := ⟨_, rfl⟩
        have HRP := Sd.mk (show rp = true ↔ b0 = true ∧ b1 = true ∧ x.tags[t']? = some u by
          rw [← hrp, HP.out x, HT.out, ← hb0, ← hb1, ← hu]
          unfold holdsF
          rw [endF_in (by have := hrs.1; omega) (by have := hrs.2.1; omega), endF_in (by omega) (by omega), Int.toNat_natCast, hl]
          simp only [decide_eq_true_eq, beq_iff_eq]
          exact ⟨fun h => ⟨h.2.2.1.2, h.2.2.2.1, h.2.2.2.2.2⟩, fun h => ⟨by omega, by omega, ⟨hrs.1, h.1⟩, h.2.1, all16_of hrs.2.2.2, h.2.2⟩⟩)
        have HGT := Sd.mk (show goodF p (c.sigs.take (i + 1)) = if rp = true then goodF p (c.sigs.take i) ++ [x.node] else goodF p (c.sigs.take i) by rw [good_take hx, hrp])
        rw [← hl] at p1 xc
        clear hx hrp s1 hrs hu hl
        go_upto_region 8 with (fail)
        have Y0 := Sd.mk (blk_new wr (.cells #[.int .i64 x.node, .slice A1 l c1] 39))
        have hb := below_one wr (.cells #[.int .i64 x.node, .slice A1 l c1] 39)
        have HO4 := Sd.mk (HO.out.below hb)
        have X4 := Sd.mk (blk_keep X3.out hb)
        have S4 := Sd.mk (S1.out.below hb)
        clear p0 p1 S1 X3 HO HW hb c2
        generalize wr.heap.size = Bv at Y0 ⊢
        generalize wr.alloc _ = W4 at Y0 HO4 X4 S4 ⊢
        have x0 := fun d os => cell_regrown (blk_at X4.out 0 _ rfl) d os
        have x1 := fun d os => cell_regrown (blk_at X4.out 1 _ rfl) d os
        have y0 := fun d os => cell_regrown (blk_at Y0.out 0 _ rfl) d os
        have y1 := fun d os => cell_regrown (blk_at Y0.out 1 _ rfl) d os
        cases b0 with
        | false =>
          obtain rfl : rp = false := by
            cases rp with
            | false => rfl
            | true => exact absurd (HRP.out.1 rfl).1 (by simp)
          refine wp_region_quiet_below (by assumption) (by kernel_rfl) ?_
          repeat (go_big_quiet_step (fail))
          refine wpQuiet_nil ?_
          rintro W9 ⟨⟨nq, osq⟩, rfl⟩
          have HO5 := Sd.mk (HO4.out.below (below_regrown W4 nq osq))
          ((have HG2 := Sd.mk (show goodF p (c.sigs.take (i + 1)) = goodF p (c.sigs.take i) from HGT.out)); (have HK2 := Sd.mk (show (goodF p (c.sigs.take (i + 1))).length = q by rw [HG2.out]; exact HK.out)); (have HO6 := Sd.mk (by have h := HO5.out; rw [← HG2.out] at h; exact h)); go_wp2; go_roundg (gk - 1); (case measure => omega); (case rel => exact ⟨i + 1, B, q, d, by omega, by omega, rfl, by go_num, HK2, HO6⟩))
        | true =>
          cases b1 with
          | false =>
            obtain rfl : rp = false := by
              cases rp with
              | false => rfl
              | true => exact absurd (HRP.out.1 rfl).2.1 (by simp)
            refine wp_region_quiet_below (by assumption) (by kernel_rfl) ?_
            repeat (go_big_quiet_step (fail))
            refine wpQuiet_nil ?_
            rintro W9 ⟨⟨nq, osq⟩, rfl⟩
            have HO5 := Sd.mk (HO4.out.below (below_regrown W4 nq osq))
            ((have HG2 := Sd.mk (show goodF p (c.sigs.take (i + 1)) = goodF p (c.sigs.take i) from HGT.out)); (have HK2 := Sd.mk (show (goodF p (c.sigs.take (i + 1))).length = q by rw [HG2.out]; exact HK.out)); (have HO6 := Sd.mk (by have h := HO5.out; rw [← HG2.out] at h; exact h)); go_wp2; go_roundg (gk - 1); (case measure => omega); (case rel => exact ⟨i + 1, B, q, d, by omega, by omega, rfl, by go_num, HK2, HO6⟩))
          | true =>
            have hln : l = n' := by have := eq_of_beq hb1; omega
            have htl : t' < x.tags.length := by rw [← HLN.out, hln]; exact htn
            obtain ⟨b3, o3, rfl, z0, -⟩ := str_at S4.out.row htl
            obtain ⟨y, hy⟩ : ∃ y, x.tags[t'] = y := ⟨_, rfl⟩
            rw [hy] at z0
            have HY := Sd.mk (show x.tags[t']? = some y by rw [List.getElem?_eq_getElem htl, hy])
            have z0' := fun d os => cell_regrown z0 d os
            have htli : (t' : Int) < (l : Int) := by omega
            have htln : t' < l := by omega
            obtain ⟨b2, hb2⟩ : ∃ b, (y.toList == u.toList) = b := ⟨_, rfl⟩
            have HRP2 := Sd.mk (show rp = b2 by
              rw [Bool.eq_iff_iff, HRP.out, ← hb2, str_beq, decide_eq_true_eq, HY.out]
              exact ⟨fun h => Option.some.inj h.2.2, fun h => ⟨rfl, rfl, by rw [h]⟩⟩)
            clear hln htl hy z0 HRP
            refine wp_region_quiet_below (by assumption) (by kernel_rfl) ?_
            repeat (go_big_quiet_step ((first
              | (go_at_call 24; refine Calls.regrown_of (reftext_any _ c.view c.block HBZ.out tx HT.out))
              | (go_at_call 52; refine Calls.regrown_of (reftag_any _ seed x.node (t' : Int) tx hsd HTZ.out u HU.out)))))
            refine wpQuiet_nil ?_
            rintro W9 ⟨⟨nq, osq⟩, rfl⟩
            have hb9 := below_regrown W4 nq osq
            have HO5 := Sd.mk (HO4.out.below hb9)
            cases b2 with
            | false =>
              obtain rfl : rp = false := HRP2.out
              ((have HG2 := Sd.mk (show goodF p (c.sigs.take (i + 1)) = goodF p (c.sigs.take i) from HGT.out)); (have HK2 := Sd.mk (show (goodF p (c.sigs.take (i + 1))).length = q by rw [HG2.out]; exact HK.out)); (have HO6 := Sd.mk (by have h := HO5.out; rw [← HG2.out] at h; exact h)); go_wp2; go_roundg (gk - 1); (case measure => omega); (case rel => exact ⟨i + 1, B, q, d, by omega, by omega, rfl, by go_num, HK2, HO6⟩))
            | true =>
              obtain rfl : rp = true := HRP2.out
              have Y5 := Sd.mk (blk_keep Y0.out hb9)
              clear x0 x1 y0 y1 z0' HO4 X4 Y0 S4 hb9
              generalize grow _ _ = W5 at HO5 Y5 ⊢
              have y0 := blk_at Y5.out 0 _ rfl
              have HG2 := Sd.mk (show goodF p (c.sigs.take (i + 1)) = goodF p (c.sigs.take i) ++ [x.node] from HGT.out)
              go_wp2_with (first
                | (at_builtin; refine append_one (f := fI) (n := 1) (fun _ => rfl) fI_one w2.heap.size rfl (.tmp 74) (.tmp 77) 28 3 (.int .i64 0) 8 rfl Try.underlying28 info_int rfl (by decide) (.slice B q d) (goodF p (c.sigs.take i)) x.node rfl rfl HO5.out.own HO5.out.bel HO5.out.bel.size (by rw [HK.out]; omega) (by rw [HK.out]; omega) ?_; intro v6 w6 hown hbel hgrow; obtain ⟨A6, q6, rfl⟩ := OwnR.slice hown; have hl6 : (goodF p (c.sigs.take i) ++ [x.node]).length = q + 1 := (by rw [List.length_append, HK.out]; rfl); rw [hl6] at hown ⊢; have HK6 := Sd.mk hl6; have HO6 := Sd.mk (⟨hown, hbel⟩ : Og w2 (.slice A6 (q + 1) q6) (goodF p (c.sigs.take i) ++ [x.node]) w6); clear hown hbel hgrow hl6))
              go_roundg (gk - 1)
              case measure => omega
              case rel => exact ⟨i + 1, A6, q + 1, q6, by omega, by omega, rfl, by go_num, ⟨by rw [HG2.out]; exact HK6.out⟩, ⟨by rw [HG2.out]; exact HO6.out⟩⟩
      · have hii : decide (i < m) = false := decide_eq_false (by omega)
        have hii2 : decide ((i : Int) < (m : Int)) = false := decide_eq_false (by omega)
        have HE := Sd.mk (show c.sigs.take i = c.sigs from List.take_of_length_le (by rw [← HM.out]; omega))
        go_wp2
        go_ret
        exact ⟨_, rfl, by have := HO.out; rw [HE.out] at this; exact this.up HB2.out⟩
  · have HE := Sd.mk (show (if r = true then goodF p c.sigs else []) = [] by
      cases r with
      | false => rfl
      | true =>
        rw [if_pos rfl]
        have hno : ∀ x ∈ c.sigs, ¬ p x = true := fun x _ h => by
          have := (HP.out x).1 h
          exact hall ⟨rfl, this.1, this.2.1⟩
        unfold goodF
        rw [List.filter_eq_nil_iff.2 hno]; rfl)
    rw [HE.out]
    obtain ⟨b0, hb0⟩ : ∃ b, decide (n < 1) = b := ⟨_, rfl⟩
    obtain ⟨b1, hb1⟩ : ∃ b, decide (7 < n) = b := ⟨_, rfl⟩
    obtain ⟨b2, hb2⟩ : ∃ b, decide (tn < 0) = b := ⟨_, rfl⟩
    obtain ⟨b3, hb3⟩ : ∃ b, decide (n ≤ tn) = b := ⟨_, rfl⟩
    have hor : (!r || b0 || b1 || b2 || b3) = true := by
      rw [← hb0, ← hb1, ← hb2, ← hb3]
      cases r with
      | false => rfl
      | true =>
        simp only [Bool.not_true, Bool.false_or, Bool.or_eq_true, decide_eq_true_eq]
        by_cases h1 : 1 ≤ n ∧ n ≤ 7
        · have h3 : ¬ (0 ≤ tn ∧ tn < n) := fun h2 => hall ⟨rfl, h1, h2⟩
          omega
        · omega
    clear HE HP HR hall
    go_enter Try.func15, Try.ntmps15
    go_upto_region 1 with (fail)
    generalize w.heap.size = Bx at X0 ⊢
    generalize w.alloc _ = W1 at X0 HB HS HRT ⊢
    have c0 := blk_at X0.out 0 _ rfl
    have c1 := blk_at X0.out 1 _ rfl
    have c2 := blk_at X0.out 2 _ rfl
    cases r with
    | false => (go_wp2_with (first | (go_at_call 51; (with_reducible refine HRT.out.mono ?_); rintro e w2 ⟨rfl, hb⟩; have HB2 := Sd.mk (below_then HB.out hb); clear hb)); go_ret; exact ⟨_, rfl, OwnR.nil _ _ _ _ _, HB2.out⟩)
    | true =>
      cases b0 with
      | true => (go_wp2_with (first | (go_at_call 51; (with_reducible refine HRT.out.mono ?_); rintro e w2 ⟨rfl, hb⟩; have HB2 := Sd.mk (below_then HB.out hb); clear hb)); go_ret; exact ⟨_, rfl, OwnR.nil _ _ _ _ _, HB2.out⟩)
      | false =>
        cases b1 with
        | true => (go_wp2_with (first | (go_at_call 51; (with_reducible refine HRT.out.mono ?_); rintro e w2 ⟨rfl, hb⟩; have HB2 := Sd.mk (below_then HB.out hb); clear hb)); go_ret; exact ⟨_, rfl, OwnR.nil _ _ _ _ _, HB2.out⟩)
        | false =>
          cases b2 with
          | true => (go_wp2_with (first | (go_at_call 51; (with_reducible refine HRT.out.mono ?_); rintro e w2 ⟨rfl, hb⟩; have HB2 := Sd.mk (below_then HB.out hb); clear hb)); go_ret; exact ⟨_, rfl, OwnR.nil _ _ _ _ _, HB2.out⟩)
          | false =>
            obtain rfl : b3 = true := hor
            (go_wp2_with (first | (go_at_call 51; (with_reducible refine HRT.out.mono ?_); rintro e w2 ⟨rfl, hb⟩; have HB2 := Sd.mk (below_then HB.out hb); clear hb)); go_ret; exact ⟨_, rfl, OwnR.nil _ _ _ _ _, HB2.out⟩)
end Go.Proofs.Ytdmdfpbklflijaa.Crt
