/- A ledger: New, apply: walked. -/
import Derived.Test.YtgleoeiiiadanaaLedB
import Derived.Test.YtgleoeiiiadanaaPeel
import Derived.BigQuiet
import Derived.BigRegion
set_option linter.unusedVariables false
set_option linter.unusedSimpArgs false
namespace Go.Proofs.Ytgleoeiiiadanaa.Led
open Go.RowKit Rd Api Own Mv Num Dig Wtx

theorem led_sum (w : World) (f : ByteArray) (hf : sum LEDGER = f) : Calls Try.prog 61 #[.string { data := #[108, 101, 100, 103, 101, 114] }] w fun e w' => e = .returned (.string f) ∧ Below w.heap.size w w' := by
  subst hf; exact blake_sum_any w LEDGER (by decide)
theorem sum_eq (w : World) (x : ByteArray) (hx : x.size ≤ 200) (d : ByteArray) (hd : sum x = d) : Calls Try.prog 61 #[.string x] w fun e w' => e = .returned (.string d) ∧ Below w.heap.size w w' := by
  subst hd; exact blake_sum_any w x (by omega)
-- <L1
set_option maxHeartbeats 4000000 in
set_option maxRecDepth 100000 in
theorem new_any (w : World) : Calls Try.prog 37 #[] w fun e w' => ∃ g b ve vd, e = .returned (.pointer (some ⟨g, 0, none⟩)) ∧ Led (fun k => w.heap.size ≤ k) g b ve vd [] w' ∧ Below w.heap.size w w' := by
  obtain ⟨f, hf⟩ : ∃ f, sum LEDGER = f := ⟨_, rfl⟩
  have hc := fun W => led_sum W f hf
  have HF := Sd.mk hf
  have hmm := @run_makeMap Try.prog
  clear hf
  go_enter Try.func37, Try.ntmps37
  go_wp2_with (first
    | (go_at_call 61; (with_reducible refine (hc _).mono ?_); rintro e w1 ⟨rfl, hb1⟩))
  go_ret
  have hsz := hb1.size
  refine ⟨w1.heap.size + 1 + 1, w1.heap.size + 1, .slice none 0 0, .slice (some ⟨w1.heap.size, 0, none⟩) 1 1, rfl, ?_, below_then hb1 (below_then (below_one w1 _) (below_then (below_one _ _) (below_one _ _)))⟩
  have e1 : (w1.alloc (.cells #[.string f] 9)).heap[w1.heap.size]? = _ := blk_new _ _
  refine ⟨blk_new2 _ _ _ _, OwnR.nil _ _ _ _ _, ?_, ⟨#[], 0, blk_keep (blk_new1 _ _ _) (below_one _ _), rfl, fun i x hx => by simp at hx⟩, nd_nil, fun x hx => (by simp at hx), by omega, by omega, fun k hk => (by simp [Value.ownBlock] at hk), fun k hk => (by simp only [Value.ownBlock, Option.some.injEq] at hk; omega)⟩
  have := own_built (f := fS) (n := 1) (fun _ => rfl) w1 9 f
  have h2 := OwnR.below (OwnR.below this (below_one _ (.map #[] 0))) (below_one _ (.cells #[.slice none 0 0, .slice (some ⟨w1.heap.size, 0, none⟩) 1 1, .map (some (w1.heap.size + 1))] 89))
  rw [show digs [] = [f] from by unfold digs; simp [dgst, HF.out]]
  exact h2
-- L1>

set_option maxHeartbeats 4000000 in
set_option maxRecDepth 100000 in
theorem apply_old (S : Nat → Prop) (W : World) (g b : Nat) (ve vd : Value) (xs : List Rq) (h : Led S g b ve vd xs W) (r : Rq) (hr : Fine r) (j : Nat) (hj : idx xs r.c r.s = some j) :
    Calls Try.prog 62 #[.pointer (some ⟨g, 0, none⟩), .agg #[.int .i64 r.c, .int .i64 r.s, .string r.b]] W fun e w' => e = .returned (.int .i64 (j : Nat)) ∧ Below W.heap.size W w' := by
  obtain ⟨c, s, bd⟩ := r
  simp only at hj ⊢
  have hlook : ∀ W1, Below W.heap.size W W1 → (Instr.lookup 87 (.map (some b)) (.agg #[.int .i64 c, .int .i64 s]) true).run Try.prog W1 = .ok (.tuple #[.int .i64 (j : Nat), .bool true]) W1 := fun W1 hb => by
    have := mp_look (h.below hb).map h.fine h.nd hr.c hr.s
    rw [hj] at this
    exact this
  have HL := Sd.mk hlook
  have HG := Sd.mk h.blk
  clear hlook h hr hj
  go_enter Try.func62, Try.ntmps62
  go_upto_region 1 with (fail)
  have X0 := blk_new W (.cells #[.int .i64 c, .int .i64 s, .string bd] 60)
  have B0 := below_one W (.cells #[.int .i64 c, .int .i64 s, .string bd] 60)
  generalize W.alloc _ = W1 at X0 B0 ⊢
  have c0 := blk_at X0 0 _ rfl
  have c1 := blk_at X0 1 _ rfl
  go_upto_region 2 with (fail)
  have X1 := blk_new W1 (.cells #[.int .i64 c, .int .i64 s] 94)
  have B1 := below_then B0 (below_one W1 (.cells #[.int .i64 c, .int .i64 s] 94))
  clear c0 c1 X0 B0
  generalize hn : W1.heap.size = n1 at X1 ⊢
  generalize W1.alloc _ = W2 at X1 B1 ⊢
  have k0 := blk_at X1 0 _ rfl
  have k1 := blk_at X1 1 _ rfl
  have g2 := blk_at (blk_keep HG.out B1) 2 _ rfl
  have hl := HL.out W2.drew (below_drew' B1)
  have HB := Sd.mk B1
  clear X1 B1 hn
  go_region
  go_wp2
  go_ret
  exact ⟨rfl, below_drew' HB.out⟩

-- <L2
set_option maxHeartbeats 4000000 in
set_option maxRecDepth 100000 in
theorem apply_new (S : Nat → Prop) (W : World) (g b : Nat) (ve vd : Value) (xs : List Rq) (h : Led S g b ve vd xs W) (hS : ∀ k, W.heap.size ≤ k → S k) (r : Rq) (hr : Fine r) (hj : idx xs r.c r.s = none) (hlen : xs.length ≤ 1000) :
    Calls Try.prog 62 #[.pointer (some ⟨g, 0, none⟩), .agg #[.int .i64 r.c, .int .i64 r.s, .string r.b]] W fun e w' => ∃ ve' vd', e = .returned (.int .i64 (xs.length : Nat)) ∧ Led S g b ve' vd' (xs ++ [r]) w' ∧ Fr S W w' := by
  obtain ⟨A1, q1, hve⟩ := OwnR.slice h.own
  obtain ⟨A2, q2, hvd⟩ := OwnR.slice h.dig
  have hne : ve.ownBlock ≠ some W.heap.size := fun e => by have := own_lt h.own e; omega
  have hlook : ∀ W1, Below W.heap.size W W1 → (Instr.lookup 87 (.map (some b)) (.agg #[.int .i64 r.c, .int .i64 r.s]) true).run Try.prog W1 = .ok (.tuple #[.int .i64 0, .bool false]) W1 := fun W1 hb => by
    have := mp_look (h.below hb).map h.fine h.nd hr.c hr.s
    rw [hj] at this
    exact this
  have hpush : ∀ W1, Mp b xs W1 → ∃ W', (Instr.mapUpdate 87 (.map (some b)) (.agg #[.int .i64 r.c, .int .i64 r.s]) (.int .i64 (xs.length : Nat))).run Try.prog W1 = .ok () W' ∧ Mp b (xs ++ [r]) W' ∧ W1.grownBy W' (some b) := fun W1 hm => mp_push hm h.fine hr hj
  have HP := Sd.mk hpush
  have HL := Sd.mk hlook
  have H := Sd.mk h
  have HX := Sd.mk (show Nd (xs ++ [r]) ∧ ∀ x ∈ xs ++ [r], Fine x from ⟨nd_snoc h.nd hj, fun x hx => by
    rcases List.mem_append.1 hx with h1 | h1
    · exact h.fine x h1
    · simp at h1; subst h1; exact hr⟩)
  have HN := Sd.mk hne
  have HSS := Sd.mk hS
  have hrb : r.b.size ≤ 60 := hr.b
  obtain ⟨m, hm⟩ : ∃ m, m = xs.length := ⟨_, rfl⟩
  have HM := Sd.mk hm
  obtain ⟨dg, hdg⟩ : ∃ d, dgst xs = d := ⟨_, rfl⟩
  have hds : dg.size = 32 := by rw [← hdg]; exact dgst_size _
  obtain ⟨rb, hrq⟩ : ∃ d, reqb r.c r.s r.b = d := ⟨_, rfl⟩
  have hrs : rb.size ≤ 72 := by rw [← hrq, reqb_size]; omega
  obtain ⟨d1, hd1⟩ : ∃ d, stp dg r = d := ⟨_, rfl⟩
  have HDG := Sd.mk hdg
  have HRQ := Sd.mk hrq
  have HD1 := Sd.mk (show sum (({ data := #[69] } ++ dg : ByteArray) ++ rb) = d1 by rw [← hd1, ← hrq]; rfl)
  have HD2 := Sd.mk (show digs (xs ++ [r]) = digs xs ++ [d1] by rw [digs_snoc, hdg, hd1])
  rw [← hm] at hve hlen ⊢
  rw [digs_length, ← hm] at hvd
  subst hve
  subst hvd
  have cat1 : ¬9223372036854775807 < 1 + dg.size := by omega
  have cat2 : ¬9223372036854775807 < ({ data := #[69] } ++ dg : ByteArray).size + rb.size := by rw [app_size]; show ¬ _ < 1 + _ + _; omega
  have cat3 : ¬9223372036854775807 < 1 + dg.size + rb.size := by omega
  have HSZ := Sd.mk (show (({ data := #[69] } ++ dg : ByteArray) ++ rb).size ≤ 200 by rw [app_size, app_size]; show 1 + _ + _ ≤ _; omega)
  obtain ⟨c, s, bd⟩ := r
  simp only at HP HL hrb HRQ ⊢
  clear hlook hpush h hr hj hne hS hm hdg hrq hd1 hds hrs
  go_enter Try.func62, Try.ntmps62
  go_upto_region 1 with (fail)
  have X0 := blk_new W (.cells #[.int .i64 c, .int .i64 s, .string bd] 60)
  have B0 := below_one W (.cells #[.int .i64 c, .int .i64 s, .string bd] 60)
  generalize W.alloc _ = W1 at X0 B0 ⊢
  have c0 := blk_at X0 0 _ rfl
  have c1 := blk_at X0 1 _ rfl
  go_upto_region 2 with (fail)
  have X1 := blk_new W1 (.cells #[.int .i64 c, .int .i64 s] 94)
  have Xq := blk_keep X0 (below_one W1 (.cells #[.int .i64 c, .int .i64 s] 94))
  have B1 := below_then B0 (below_one W1 (.cells #[.int .i64 c, .int .i64 s] 94))
  clear c0 c1 X0 B0
  generalize hn : W1.heap.size = n1 at X1 ⊢
  generalize W1.alloc _ = W2 at X1 Xq B1 ⊢
  have k0 := blk_at X1 0 _ rfl
  have k1 := blk_at X1 1 _ rfl
  have g2 := blk_at (blk_keep H.out.blk B1) 2 _ rfl
  have hl := HL.out W2.drew (below_drew' B1)
  have HB := Sd.mk B1
  have HX0 := Sd.mk Xq
  have HX1 := Sd.mk X1
  clear X1 Xq B1 hn
  go_region
  clear hl g2 k0 k1
  have HB2 := Sd.mk (below_drew' HB.out)
  have HL3 := Sd.mk ((Led.l3 H.out).below HB2.out)
  have HX02 := Sd.mk (show W2.drew.heap[W.heap.size]? = _ from HX0.out)
  have HX12 := Sd.mk (show W2.drew.heap[n1]? = _ from HX1.out)
  clear HX0 HX1 HB
  generalize W2.drew = W3 at HB2 HL3 HX02 HX12 ⊢
  have g0 := blk_at HL3.out.blk 0 _ rfl
  go_upto_region 6 with (fail)
  have g2 := blk_at HL3.out.blk 2 _ rfl
  have k0 := blk_at HX12.out 0 _ rfl
  have k1 := blk_at HX12.out 1 _ rfl
  obtain ⟨W4, hu, hm4, hg4⟩ := HP.out W3.drew HL3.out.drew.map
  rw [← HM.out] at hu
  have HL4 := Sd.mk (HL3.out.drew.push hm4 hg4)
  have HX4 := Sd.mk (blk_grown (show W3.drew.heap[W.heap.size]? = _ from HX02.out) hg4 (fun e => by have := Option.some.inj e; have h1 := HX02.out; obtain ⟨es, ck, h2, _⟩ := HL3.out.map.h; rw [this, h1] at h2; cases h2))
  have HF4 := Sd.mk ((((Fr.below HB2.out : Fr S W W3).drew).grown hg4 (fun k e => by cases e; exact HL3.out.sb)))
  clear hm4 hg4 g0
  go_region
  clear g2 k0 k1 hu HB2 HL3 HX02 HX12 HL HP H
  have HL5 := Sd.mk HL4.out.drew
  have HF5 := Sd.mk HF4.out.drew
  have HX5 := Sd.mk (show W4.drew.heap[W.heap.size]? = _ from HX4.out)
  have g0 := blk_at HL4.out.blk 0 _ rfl
  have k0 := blk_at HX4.out 0 _ rfl
  have k1 := blk_at HX4.out 1 _ rfl
  have k2 := blk_at HX4.out 2 _ rfl
  have n3 : m + 1 ≤ 1001 := by omega
  go_upto_region 7 with (fail)
  go_cut [4] from 36 to 46 (fun v4 wx => v4 = .int .i64 0 ∧ ∃ A6 q6, Sd (L3 S g b (.slice A6 (m + 1) q6) (.slice A2 (m + 1) q2) (xs ++ [⟨c, s, bd⟩]) (xs ++ [⟨c, s, bd⟩]) (digs xs) wx) ∧ Sd (Fr S W wx) ∧ Sd (wx.heap[W.heap.size]? = some (.cells #[.int .i64 c, .int .i64 s, .string bd] 60 (0, 0))))
  case first =>
    -- <L3
    have ga : ∀ o, (W4.alloc o).cell? ⟨g, 0, none⟩ = some (.slice A1 m q1) := fun o => cell_below (below_one W4 o) g0
    go_region_law (first
      | (refine step_append_at (f := fR) (n := 3) (fun _ => rfl) (fun _ _ hu => by simp [fR] at hu; rcases hu with rfl | rfl | rfl <;> rfl) rfl (.tmp 40) (.tmp 42) 53 60 (.agg #[.int .i64 0, .int .i64 0, .string ByteArray.empty]) 32 rfl Try.underlying53 info_req rfl (by decide) (.slice A1 m q1) xs ⟨c, s, bd⟩ rfl rfl HL5.out.own (by rw [← HM.out]; omega) (by rw [← HM.out]; omega) ?_; intro v6 w6 hown hgrow hob; have r6 := blk_grown HL5.out.blk hgrow (OwnR.blk HL5.out.own HL5.out.blk (by decide)); have c6 := blk_at r6 0 _ rfl; have f6 := blk_frz r6 0; have HL6 := Sd.mk (HL5.out.entry hown hgrow hob (fun k hk => HSS.out k (by have := HF5.out.size; omega))); have HF6 := Sd.mk ((HF5.out.grown hgrow (fun k e => HL5.out.se k e)).set g 0 v6 HL5.out.sg); have HX6 := Sd.mk ((set_same w6 (j := 0) (u := v6) (show W.heap.size ≠ g from fun e => by have h1 := HX5.out; rw [e, HL5.out.blk] at h1; cases h1)).trans (blk_grown HX5.out hgrow HN.out)); obtain ⟨A6, q6, rfl⟩ := OwnR.slice hown; have hlen6 : (xs ++ [(⟨c, s, bd⟩ : Rq)]).length = m + 1 := (by rw [List.length_append, ← HM.out]; rfl); rw [hlen6] at HL6 HF6 HX6 ⊢; clear hlen6 hown hgrow hob)
      | fail)
    all_goals
      clear c6 f6 r6 k0 k1 k2 g0 ga HL5 HF5 HX5 HL4 HF4 HX4
      generalize w6.setCell _ _ = W7 at HL6 HF6 HX6 ⊢
      go_wp2
      go_meet
      exact ⟨rfl, _, _, HL6, HF6, HX6⟩
    -- L3>
  case rest =>
    clear k0 k1 k2 g0 HL5 HF5 HX5 HL4 HF4 HX4
    obtain ⟨rfl, A6, q6, HL6, HF6, HX6⟩ := hcut
    have HDR := Sd.mk (OwnR.reads (d := strN) (fun _ _ => rfl) (fun _ => rfl) rfl HL6.out.dig)
    obtain ⟨A2', q2', hv, hsl⟩ := HDR.out
    simp only [Value.slice.injEq] at hv
    obtain ⟨rfl, -, rfl⟩ := hv
    obtain ⟨b2, o2, rfl, hcell⟩ := strN_at hsl.row (i := m) (by rw [digs_length, ← HM.out]; omega)
    rw [(List.getElem_eq_iff (by rw [digs_length, ← HM.out]; omega)).2 (show (digs xs)[m]? = some dg by rw [digs_at _ (by have := HM.out; omega), HM.out, List.take_length, HDG.out])] at hcell
    clear HDR hsl
    have g1 := blk_at HL6.out.blk 1 _ rfl
    have HXC := Sd.mk HX6.out
    have HL6d := Sd.mk HL6.out.drew
    have HF6d := Sd.mk HF6.out.drew
    have hmi : (m : Int) < (m : Int) + 1 := by omega
    have k0 := blk_at HX6.out 0 _ rfl
    have k1 := blk_at HX6.out 1 _ rfl
    have k2 := blk_at HX6.out 2 _ rfl
    clear HL6 HF6 HX6
    go_upto_region 8 with (fail)
    have hd0 : Below wc.heap.size wc wc.drew := below_drew' (Below.refl _ _)
    have g1d := cell_below hd0 g1
    have hcd := cell_below hd0 hcell
    have k0d := cell_below hd0 k0
    have k1d := cell_below hd0 k1
    have k2d := cell_below hd0 k2
    have KB := Sd.mk (fun (W1 : World) (hb : Below wc.heap.size wc W1) => (⟨cell_below hb g1, cell_below hb k0, cell_below hb k1, cell_below hb k2⟩ : W1.cell? ⟨g, 1, none⟩ = some (.slice (some ⟨b2, o2, none⟩) (m + 1) q2) ∧ W1.cell? ⟨W.heap.size, 0, none⟩ = some (.int .i64 c) ∧ W1.cell? ⟨W.heap.size, 1, none⟩ = some (.int .i64 s) ∧ W1.cell? ⟨W.heap.size, 2, none⟩ = some (.string bd)))
    have HXB := Sd.mk (fun (W1 : World) (hb : Below wc.heap.size wc W1) => (blk_keep (HXC.out) hb : W1.heap[W.heap.size]? = some (.cells #[.int .i64 c, .int .i64 s, .string bd] 60 (0, 0))))
    refine Peel.region_peel (n := 21) (S := fun W1 => W1.cell? ⟨g, 1, none⟩ = some (.slice (some ⟨b2, o2, none⟩) (m + 1) q2) ∧ W1.cell? ⟨W.heap.size, 0, none⟩ = some (.int .i64 c) ∧ W1.cell? ⟨W.heap.size, 1, none⟩ = some (.int .i64 s) ∧ W1.cell? ⟨W.heap.size, 2, none⟩ = some (.string bd)) (by kernel_rfl) (by kernel_rfl) ⟨g1d, k0d, k1d, k2d⟩ (fun hHeld => ?_)
    simp only [List.take_succ_cons, List.take_zero]
    clear g1 hcell k0 k1 k2
    (refine Peel.take 0 (v := ?_) rfl rfl (by kernel_rfl) (by kernel_rfl) (by kernel_rfl) (fun _ _ _ h => h) (by assumption) ?_ ?_; rotate_left; (focus (intro w hSw; (try dsimp only at hSw); (try simp only [List.getElem_toArray, List.getElem_cons_succ, List.getElem_cons_zero]); go_simp; try (with_reducible rfl))); try simp only [List.getElem_toArray, List.getElem_cons_succ, List.getElem_cons_zero, Act.put, List.setIfInBounds_toArray, List.set_cons_zero, List.set_cons_succ])
    (refine Peel.take 1 (v := ?_) rfl rfl (by kernel_rfl) (by kernel_rfl) (by kernel_rfl) (fun _ _ _ h => h) (by assumption) ?_ ?_; rotate_left; (focus (intro w hSw; (try dsimp only at hSw); (try simp only [List.getElem_toArray, List.getElem_cons_succ, List.getElem_cons_zero]); go_simp; try (with_reducible rfl))); try simp only [List.getElem_toArray, List.getElem_cons_succ, List.getElem_cons_zero, Act.put, List.setIfInBounds_toArray, List.set_cons_zero, List.set_cons_succ])
    (refine Peel.take 2 (v := ?_) rfl rfl (by kernel_rfl) (by kernel_rfl) (by kernel_rfl) (fun _ _ _ h => h) (by assumption) ?_ ?_; rotate_left; (focus (intro w hSw; (try dsimp only at hSw); (try simp only [List.getElem_toArray, List.getElem_cons_succ, List.getElem_cons_zero]); go_simp; try (with_reducible rfl))); try simp only [List.getElem_toArray, List.getElem_cons_succ, List.getElem_cons_zero, Act.put, List.setIfInBounds_toArray, List.set_cons_zero, List.set_cons_succ])
    (refine Peel.take 3 (v := ?_) rfl rfl (by kernel_rfl) (by kernel_rfl) (by kernel_rfl) (fun _ _ _ h => h) (by assumption) ?_ ?_; rotate_left; (focus (intro w hSw; (try dsimp only at hSw); (try simp only [List.getElem_toArray, List.getElem_cons_succ, List.getElem_cons_zero]); go_simp; try (with_reducible rfl))); try simp only [List.getElem_toArray, List.getElem_cons_succ, List.getElem_cons_zero, Act.put, List.setIfInBounds_toArray, List.set_cons_zero, List.set_cons_succ])
    (refine Peel.take 4 (v := ?_) rfl rfl (by kernel_rfl) (by kernel_rfl) (by kernel_rfl) (fun _ _ _ h => h) (by assumption) ?_ ?_; rotate_left; (focus (intro w hSw; (try dsimp only at hSw); (try simp only [List.getElem_toArray, List.getElem_cons_succ, List.getElem_cons_zero]); go_simp; try (with_reducible rfl))); try simp only [List.getElem_toArray, List.getElem_cons_succ, List.getElem_cons_zero, Act.put, List.setIfInBounds_toArray, List.set_cons_zero, List.set_cons_succ])
    (refine Peel.take 5 (v := ?_) rfl rfl (by kernel_rfl) (by kernel_rfl) (by kernel_rfl) (fun _ _ _ h => h) (by assumption) ?_ ?_; rotate_left; (focus (intro w hSw; (try dsimp only at hSw); (try simp only [List.getElem_toArray, List.getElem_cons_succ, List.getElem_cons_zero]); go_simp; try (with_reducible rfl))); try simp only [List.getElem_toArray, List.getElem_cons_succ, List.getElem_cons_zero, Act.put, List.setIfInBounds_toArray, List.set_cons_zero, List.set_cons_succ])
    (refine Peel.take 6 (v := ?_) rfl rfl (by kernel_rfl) (by kernel_rfl) (by kernel_rfl) (fun _ _ _ h => h) (by assumption) ?_ ?_; rotate_left; (focus (intro w hSw; (try dsimp only at hSw); (try simp only [List.getElem_toArray, List.getElem_cons_succ, List.getElem_cons_zero]); go_simp; try (with_reducible rfl))); try simp only [List.getElem_toArray, List.getElem_cons_succ, List.getElem_cons_zero, Act.put, List.setIfInBounds_toArray, List.set_cons_zero, List.set_cons_succ])
    (refine Peel.take 7 (v := ?_) rfl rfl (by kernel_rfl) (by kernel_rfl) (by kernel_rfl) (fun _ _ _ h => h) (by assumption) ?_ ?_; rotate_left; (focus (intro w hSw; (try dsimp only at hSw); (try simp only [List.getElem_toArray, List.getElem_cons_succ, List.getElem_cons_zero]); go_simp; try (with_reducible rfl))); try simp only [List.getElem_toArray, List.getElem_cons_succ, List.getElem_cons_zero, Act.put, List.setIfInBounds_toArray, List.set_cons_zero, List.set_cons_succ])
    (refine Peel.take 8 (v := ?_) rfl rfl (by kernel_rfl) (by kernel_rfl) (by kernel_rfl) (fun _ _ _ h => h) (by assumption) ?_ ?_; rotate_left; (focus (intro w hSw; (try dsimp only at hSw); (try simp only [List.getElem_toArray, List.getElem_cons_succ, List.getElem_cons_zero]); go_simp; try (with_reducible rfl))); try simp only [List.getElem_toArray, List.getElem_cons_succ, List.getElem_cons_zero, Act.put, List.setIfInBounds_toArray, List.set_cons_zero, List.set_cons_succ])
    (refine Peel.take 9 (v := ?_) rfl rfl (by kernel_rfl) (by kernel_rfl) (by kernel_rfl) (fun _ _ _ h => h) (by assumption) ?_ ?_; rotate_left; (focus (intro w hSw; (try dsimp only at hSw); (try simp only [List.getElem_toArray, List.getElem_cons_succ, List.getElem_cons_zero]); go_simp; try (with_reducible rfl))); try simp only [List.getElem_toArray, List.getElem_cons_succ, List.getElem_cons_zero, Act.put, List.setIfInBounds_toArray, List.set_cons_zero, List.set_cons_succ])
    (refine Peel.take 10 (v := ?_) rfl rfl (by kernel_rfl) (by kernel_rfl) (by kernel_rfl) (fun _ _ _ h => h) (by assumption) ?_ ?_; rotate_left; (focus (intro w hSw; (try dsimp only at hSw); (try simp only [List.getElem_toArray, List.getElem_cons_succ, List.getElem_cons_zero]); go_simp; try (with_reducible rfl))); try simp only [List.getElem_toArray, List.getElem_cons_succ, List.getElem_cons_zero, Act.put, List.setIfInBounds_toArray, List.set_cons_zero, List.set_cons_succ])
    (refine Peel.take 13 (v := ?_) rfl rfl (by kernel_rfl) (by kernel_rfl) (by kernel_rfl) (fun _ _ _ h => h) (by assumption) ?_ ?_; rotate_left; (focus (intro w hSw; (try dsimp only at hSw); (try simp only [List.getElem_toArray, List.getElem_cons_succ, List.getElem_cons_zero]); go_simp; try (with_reducible rfl))); try simp only [List.getElem_toArray, List.getElem_cons_succ, List.getElem_cons_zero, Act.put, List.setIfInBounds_toArray, List.set_cons_zero, List.set_cons_succ])
    refine wpAnyH_ready (rs := [11, 14]) (by kernel_rfl) (by simp) ?_
    refine AllReadyH.cons rfl (fun K hK => ?_) ?_
    · go_simp
      refine hK.out _ _ hHeld (fun hHeld => ?_)
      (clear hK K; try simp only [List.getElem_toArray, List.getElem_cons_succ, List.getElem_cons_zero, Act.put, List.setIfInBounds_toArray, List.set_cons_zero, List.set_cons_succ])
      (refine Peel.take 12 (v := ?_) rfl rfl (by kernel_rfl) (by kernel_rfl) (by kernel_rfl) (fun _ _ _ h => h) (by assumption) ?_ ?_; rotate_left; (focus (intro w hSw; (try dsimp only at hSw); (try simp only [List.getElem_toArray, List.getElem_cons_succ, List.getElem_cons_zero]); go_simp; try (with_reducible rfl))); try simp only [List.getElem_toArray, List.getElem_cons_succ, List.getElem_cons_zero, Act.put, List.setIfInBounds_toArray, List.set_cons_zero, List.set_cons_succ])
      refine wpAnyH_ready (rs := [14]) (by kernel_rfl) (by simp) ?_; refine AllReadyH.cons rfl (fun K hK => ?_) ?_
      · (go_simp; go_at_call 75; (with_reducible refine (req_any _ c s bd (by omega) rb HRQ.out).mono ?_); rintro e w5 ⟨rfl, hb5⟩; have HL7 := Sd.mk (HL6d.out.below hb5); have HF7 := Sd.mk (HF6d.out.trans (Fr.below hb5)); have hb05 := Sd.mk (below_then hd0 hb5); have hca := cell_below hb5 hcd; clear hb5)
        refine hK.out _ _ (KB.out _ hb05.out) (fun hHeld => ?_)
        (clear hK K; try simp only [List.getElem_toArray, List.getElem_cons_succ, List.getElem_cons_zero, Act.put, List.setIfInBounds_toArray, List.set_cons_zero, List.set_cons_succ])
        (refine Peel.take 15 (v := ?_) rfl rfl (by kernel_rfl) (by kernel_rfl) (by kernel_rfl) (fun _ _ _ h => h) (by assumption) ?_ ?_; rotate_left; (focus (intro w hSw; (try dsimp only at hSw); (try simp only [List.getElem_toArray, List.getElem_cons_succ, List.getElem_cons_zero]); go_simp; try (with_reducible rfl))); try simp only [List.getElem_toArray, List.getElem_cons_succ, List.getElem_cons_zero, Act.put, List.setIfInBounds_toArray, List.set_cons_zero, List.set_cons_succ])
        (refine wpAnyH_ready (rs := [16]) (by kernel_rfl) (by simp) ?_; refine AllReadyH.cons rfl (fun K hK => ?_) AllReadyH.nil; go_simp; go_at_call 61; (with_reducible refine (sum_eq _ _ HSZ.out d1 HD1.out).mono ?_); rintro e w6 ⟨rfl, hb6⟩; have HL8 := Sd.mk (HL7.out.below hb6); have HF8 := Sd.mk (HF7.out.trans (Fr.below hb6)); have hb06 := Sd.mk (below_then hb05.out hb6); clear hb6; refine hK.out _ _ (KB.out _ hb06.out) (fun hHeld => ?_); (clear hK K; try simp only [List.getElem_toArray, List.getElem_cons_succ, List.getElem_cons_zero, Act.put, List.setIfInBounds_toArray, List.set_cons_zero, List.set_cons_succ]); refine wpAnyH_ready (rs := [17]) (by kernel_rfl) (by simp) ?_; refine AllReadyH.cons rfl (fun K hK => ?_) AllReadyH.nil; go_simp; refine hK.out _ _ (KB.out _ (below_then hb06.out (below_one w6 _))) (fun hHeld => ?_); (clear hK K; try simp only [List.getElem_toArray, List.getElem_cons_succ, List.getElem_cons_zero, Act.put, List.setIfInBounds_toArray, List.set_cons_zero, List.set_cons_succ]); refine wpAnyH_ready (rs := [18]) (by kernel_rfl) (by simp) ?_; refine AllReadyH.cons rfl (fun K hK => ?_) AllReadyH.nil; (refine step_append_at (f := fS) (n := 1) (fun _ => rfl) (fun _ _ hu => by simp [fS] at hu; subst hu; rfl) rfl (.tmp 50) (.tmp 63) 45 9 (.string ByteArray.empty) 16 rfl Try.underlying45 info_str rfl (by decide) (.slice (some ⟨b2, o2, none⟩) (m + 1) q2) (digs xs) d1 rfl rfl HL8.out.dig (by rw [digs_length, ← HM.out]; omega) (by rw [digs_length, ← HM.out]; omega) ?_; intro v6 w7 hown hgrow hob; have r6 := blk_grown HL8.out.blk hgrow (OwnR.blk HL8.out.dig HL8.out.blk (by decide)); have c6 := blk_at r6 1 _ rfl; have f6 := blk_frz r6 1; have hx7 := blk_grown (HXB.out _ hb06.out) hgrow (OwnR.blk HL8.out.dig (HXB.out _ hb06.out) (by decide)); have HL9 := Sd.mk (HL8.out.digest hown hgrow hob (fun k hk => HSS.out k (by have := HF8.out.size; omega))); have HF9 := Sd.mk ((HF8.out.grown hgrow (fun k e => HL8.out.sd k e)).set g 1 v6 HL8.out.sg); refine hK.out _ _ ⟨c6, blk_at hx7 0 _ rfl, blk_at hx7 1 _ rfl, blk_at hx7 2 _ rfl⟩ (fun hHeld => ?_); (clear hK K; try simp only [List.getElem_toArray, List.getElem_cons_succ, List.getElem_cons_zero, Act.put, List.setIfInBounds_toArray, List.set_cons_zero, List.set_cons_succ]); obtain ⟨A7, q7, rfl⟩ := OwnR.slice hown; have hlen7 : (digs xs ++ [d1]).length = m + 2 := (by rw [List.length_append, digs_length, ← HM.out]; rfl); rw [hlen7] at HL9 HF9 ⊢; clear hlen7; (refine Peel.take 19 (v := ?_) rfl rfl (by kernel_rfl) (by kernel_rfl) (by kernel_rfl) (fun _ _ _ h => h) (by assumption) ?_ ?_; rotate_left; (focus (intro w hSw; (try dsimp only at hSw); (try simp only [List.getElem_toArray, List.getElem_cons_succ, List.getElem_cons_zero]); go_simp; try (with_reducible rfl))); try simp only [List.getElem_toArray, List.getElem_cons_succ, List.getElem_cons_zero, Act.put, List.setIfInBounds_toArray, List.set_cons_zero, List.set_cons_succ]); (refine Peel.take 20 (v := ?_) rfl rfl (by kernel_rfl) (by kernel_rfl) (by kernel_rfl) (fun _ _ _ h => h) (by assumption) ?_ ?_; rotate_left; (focus (intro w hSw; (try dsimp only at hSw); (try simp only [List.getElem_toArray, List.getElem_cons_succ, List.getElem_cons_zero]); go_simp; try (with_reducible rfl))); try simp only [List.getElem_toArray, List.getElem_cons_succ, List.getElem_cons_zero, Act.put, List.setIfInBounds_toArray, List.set_cons_zero, List.set_cons_succ]); refine wpAnyH_done (by kernel_rfl) ?_ _; simp only [Peel.Qn, List.drop_succ_cons, List.drop_zero]; clear hgrow hob hHeld; (go_wp2; go_ret; have h9 := HL9.out; rw [← HD2.out] at h9; exact ⟨_, _, rfl, h9.led HX.out.1 HX.out.2, HF9.out⟩)))
      · exact AllReadyH.nil
    refine AllReadyH.cons rfl (fun K hK => ?_) ?_
    · (go_simp; go_at_call 75; (with_reducible refine (req_any _ c s bd (by omega) rb HRQ.out).mono ?_); rintro e w5 ⟨rfl, hb5⟩; have HL7 := Sd.mk (HL6d.out.below hb5); have HF7 := Sd.mk (HF6d.out.trans (Fr.below hb5)); have hb05 := Sd.mk (below_then hd0 hb5); have hca := cell_below hb5 hcd; clear hb5)
      refine hK.out _ _ (KB.out _ hb05.out) (fun hHeld => ?_)
      (clear hK K; try simp only [List.getElem_toArray, List.getElem_cons_succ, List.getElem_cons_zero, Act.put, List.setIfInBounds_toArray, List.set_cons_zero, List.set_cons_succ])
      refine wpAnyH_ready (rs := [11]) (by kernel_rfl) (by simp) ?_; refine AllReadyH.cons rfl (fun K hK => ?_) ?_
      · go_simp
        refine hK.out _ _ hHeld (fun hHeld => ?_)
        (clear hK K; try simp only [List.getElem_toArray, List.getElem_cons_succ, List.getElem_cons_zero, Act.put, List.setIfInBounds_toArray, List.set_cons_zero, List.set_cons_succ])
        (refine Peel.take 12 (v := ?_) rfl rfl (by kernel_rfl) (by kernel_rfl) (by kernel_rfl) (fun _ _ _ h => h) (by assumption) ?_ ?_; rotate_left; (focus (intro w hSw; (try dsimp only at hSw); (try simp only [List.getElem_toArray, List.getElem_cons_succ, List.getElem_cons_zero]); go_simp; try (with_reducible rfl))); try simp only [List.getElem_toArray, List.getElem_cons_succ, List.getElem_cons_zero, Act.put, List.setIfInBounds_toArray, List.set_cons_zero, List.set_cons_succ])
        (refine Peel.take 15 (v := ?_) rfl rfl (by kernel_rfl) (by kernel_rfl) (by kernel_rfl) (fun _ _ _ h => h) (by assumption) ?_ ?_; rotate_left; (focus (intro w hSw; (try dsimp only at hSw); (try simp only [List.getElem_toArray, List.getElem_cons_succ, List.getElem_cons_zero]); go_simp; try (with_reducible rfl))); try simp only [List.getElem_toArray, List.getElem_cons_succ, List.getElem_cons_zero, Act.put, List.setIfInBounds_toArray, List.set_cons_zero, List.set_cons_succ])
        (refine wpAnyH_ready (rs := [16]) (by kernel_rfl) (by simp) ?_; refine AllReadyH.cons rfl (fun K hK => ?_) AllReadyH.nil; go_simp; go_at_call 61; (with_reducible refine (sum_eq _ _ HSZ.out d1 HD1.out).mono ?_); rintro e w6 ⟨rfl, hb6⟩; have HL8 := Sd.mk (HL7.out.below hb6); have HF8 := Sd.mk (HF7.out.trans (Fr.below hb6)); have hb06 := Sd.mk (below_then hb05.out hb6); clear hb6; refine hK.out _ _ (KB.out _ hb06.out) (fun hHeld => ?_); (clear hK K; try simp only [List.getElem_toArray, List.getElem_cons_succ, List.getElem_cons_zero, Act.put, List.setIfInBounds_toArray, List.set_cons_zero, List.set_cons_succ]); refine wpAnyH_ready (rs := [17]) (by kernel_rfl) (by simp) ?_; refine AllReadyH.cons rfl (fun K hK => ?_) AllReadyH.nil; go_simp; refine hK.out _ _ (KB.out _ (below_then hb06.out (below_one w6 _))) (fun hHeld => ?_); (clear hK K; try simp only [List.getElem_toArray, List.getElem_cons_succ, List.getElem_cons_zero, Act.put, List.setIfInBounds_toArray, List.set_cons_zero, List.set_cons_succ]); refine wpAnyH_ready (rs := [18]) (by kernel_rfl) (by simp) ?_; refine AllReadyH.cons rfl (fun K hK => ?_) AllReadyH.nil; (refine step_append_at (f := fS) (n := 1) (fun _ => rfl) (fun _ _ hu => by simp [fS] at hu; subst hu; rfl) rfl (.tmp 50) (.tmp 63) 45 9 (.string ByteArray.empty) 16 rfl Try.underlying45 info_str rfl (by decide) (.slice (some ⟨b2, o2, none⟩) (m + 1) q2) (digs xs) d1 rfl rfl HL8.out.dig (by rw [digs_length, ← HM.out]; omega) (by rw [digs_length, ← HM.out]; omega) ?_; intro v6 w7 hown hgrow hob; have r6 := blk_grown HL8.out.blk hgrow (OwnR.blk HL8.out.dig HL8.out.blk (by decide)); have c6 := blk_at r6 1 _ rfl; have f6 := blk_frz r6 1; have hx7 := blk_grown (HXB.out _ hb06.out) hgrow (OwnR.blk HL8.out.dig (HXB.out _ hb06.out) (by decide)); have HL9 := Sd.mk (HL8.out.digest hown hgrow hob (fun k hk => HSS.out k (by have := HF8.out.size; omega))); have HF9 := Sd.mk ((HF8.out.grown hgrow (fun k e => HL8.out.sd k e)).set g 1 v6 HL8.out.sg); refine hK.out _ _ ⟨c6, blk_at hx7 0 _ rfl, blk_at hx7 1 _ rfl, blk_at hx7 2 _ rfl⟩ (fun hHeld => ?_); (clear hK K; try simp only [List.getElem_toArray, List.getElem_cons_succ, List.getElem_cons_zero, Act.put, List.setIfInBounds_toArray, List.set_cons_zero, List.set_cons_succ]); obtain ⟨A7, q7, rfl⟩ := OwnR.slice hown; have hlen7 : (digs xs ++ [d1]).length = m + 2 := (by rw [List.length_append, digs_length, ← HM.out]; rfl); rw [hlen7] at HL9 HF9 ⊢; clear hlen7; (refine Peel.take 19 (v := ?_) rfl rfl (by kernel_rfl) (by kernel_rfl) (by kernel_rfl) (fun _ _ _ h => h) (by assumption) ?_ ?_; rotate_left; (focus (intro w hSw; (try dsimp only at hSw); (try simp only [List.getElem_toArray, List.getElem_cons_succ, List.getElem_cons_zero]); go_simp; try (with_reducible rfl))); try simp only [List.getElem_toArray, List.getElem_cons_succ, List.getElem_cons_zero, Act.put, List.setIfInBounds_toArray, List.set_cons_zero, List.set_cons_succ]); (refine Peel.take 20 (v := ?_) rfl rfl (by kernel_rfl) (by kernel_rfl) (by kernel_rfl) (fun _ _ _ h => h) (by assumption) ?_ ?_; rotate_left; (focus (intro w hSw; (try dsimp only at hSw); (try simp only [List.getElem_toArray, List.getElem_cons_succ, List.getElem_cons_zero]); go_simp; try (with_reducible rfl))); try simp only [List.getElem_toArray, List.getElem_cons_succ, List.getElem_cons_zero, Act.put, List.setIfInBounds_toArray, List.set_cons_zero, List.set_cons_succ]); refine wpAnyH_done (by kernel_rfl) ?_ _; simp only [Peel.Qn, List.drop_succ_cons, List.drop_zero]; clear hgrow hob hHeld; (go_wp2; go_ret; have h9 := HL9.out; rw [← HD2.out] at h9; exact ⟨_, _, rfl, h9.led HX.out.1 HX.out.2, HF9.out⟩)))
      · exact AllReadyH.nil
    · exact AllReadyH.nil
-- L2>
end Go.Proofs.Ytgleoeiiiadanaa.Led
