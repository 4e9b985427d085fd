/- RuleLearns: walked. -/
import Derived.Test.YtnomgkmeomlccaaForQ
import Derived.Lib.QuietBelow
import Derived.Deep.CutRange
set_option linter.unusedVariables false
set_option linter.unusedSimpArgs false

namespace Go.Proofs.Ytnomgkmeomlccaa.Fst
open Go.RowKit Go.Sort Rd Api Own Mv App Num Dig
open Blk (Block Rq rqN fR digB coreB)
open Kee (Bk fB bkK Wk Tl tlN chn All8)

set_option maxHeartbeats 1000000 in
theorem may1_any (W : World) : Calls Try.prog 88 #[.agg #[.int .i64 0, .int .i64 0], .agg #[.int .i64 1, .int .i64 0, .int .i64 0, .string ⟨#[]⟩, .slice none 0 0, .slice none 0 0]] W fun e w' => e = .returned (.bool true) ∧ RowKit.Below W.heap.size W w' := by
  go_enter Try.func88, Try.ntmps88
  go_wp2
  go_ret
  exact ⟨rfl, below_then (below_one W (.cells #[.int .i64 0, .int .i64 0] 89)) (below_one _ _)⟩
set_option maxHeartbeats 1000000 in
theorem rlawake_any (W : World) : Calls Try.prog 52 #[] W fun e w' => e = .returned (.bool true) ∧ RowKit.Below W.heap.size W w' := by
  go_enter Try.func52, Try.ntmps52
  go_wp2_with (first
    | (go_at_call 88; (with_reducible refine (may1_any _).mono ?_); rintro e w1 ⟨rfl, hb⟩; have HB := Sd.mk hb; clear hb))
  go_ret
  exact ⟨rfl, HB.out⟩
theorem vs_chn {l : List Tl} (h : l.length ≤ 30) : Vs (bld (chn l)) := by
  have := bld_of (P := fun b => 0 ≤ b.view ∧ b.view ≤ 1000) (chn l) (fun b hb => by have := Kee.chn_view l b hb; omega)
  exact this.nd
-- <L1
set_option maxHeartbeats 16000000 in
set_option maxRecDepth 100000 in
theorem rl_law (w : World) (A : Option Addr) (c : Nat) (l : List Tl) (h : Sl tlN w A c l) (h8 : All8 l) (n : Nat) (hn : n = l.length) (sv sl : Int) (a b : Nat) (ha : a < 256) (hb : b < 256) :
    Calls Try.prog 10 #[.slice A n c, .agg #[.int .i64 sv, .int .i64 sl], .agg #[.int .u8 (a : Nat), .int .u8 (b : Nat)]] w fun e w' => e = .returned (.bool true) ∧ RowKit.Below w.heap.size w w' := by
  have mixed : Try.prog.follows .mixedOrders = true := by kernel_rfl
  have b0 := below_one w (.cells #[.int .i64 sv, .int .i64 sl] 89)
  have b1 := below_one (w.alloc (.cells #[.int .i64 sv, .int .i64 sl] 89)) (.cells #[.int .u8 (a : Nat), .int .u8 (b : Nat)] 57)
  have ES := Sd.mk (blk_keep (blk_new w (.cells #[.int .i64 sv, .int .i64 sl] 89)) b1)
  have EA := Sd.mk (blk_new1 w (.cells #[.int .i64 sv, .int .i64 sl] 89) (.cells #[.int .u8 (a : Nat), .int .u8 (b : Nat)] 57))
  have HB := Sd.mk (below_then b0 b1)
  have HS := Sd.mk (h.below (below_then b0 b1))
  have HN := Sd.mk hn
  have H8 := Sd.mk h8
  have nc := Nat.le_trans h.le h.cap
  rw [← hn] at nc
  have HBB := Sd.mk hb
  clear h hn h8 b0 b1 hb
  by_cases hle : n ≤ 30
  · have d30 : decide ((30 : Int) < (n : Int)) = false := decide_eq_false (by omega)
    have d30b : decide (30 < n) = false := decide_eq_false (by omega)
    by_cases h0 : n = 0
    · subst h0
      have HBX := HB
      go_enter Try.func10, Try.ntmps10
      go_upto_region 1 with (fail)
      generalize (w.alloc _).alloc _ = W1 at HB ⊢
      go_wp2_with (first
        | (go_at_call 52; (with_reducible refine (rlawake_any _).mono ?_); rintro e w2 ⟨rfl, hb⟩; have HB2 := Sd.mk (below_then HB.out hb); clear HB; have HB := HB2; clear HB2 hb))
      go_ret
      exact ⟨rfl, HB.out⟩
    · have z0 : ((n : Int) == 0) = false := beq_eq_false_iff_ne.2 (by omega)
      have z0b : ((n : Nat) == 0) = false := beq_eq_false_iff_ne.2 (by omega)
      obtain ⟨F, hF⟩ : ∃ F, bld (chn l) = F := ⟨_, rfl⟩
      have HCL := Sd.mk (show (chn l).length = n by rw [Kee.chn_len]; exact HN.out.symm)
      have HSZ := Sd.mk (fun x (hx : x ∈ chn l) => Kee.chn_size hx)
      have HOK := Sd.mk (bld_ok (chn l))
      have HVS := Sd.mk (vs_chn (l := l) (by rw [← HN.out]; exact hle))
      rw [hF] at HOK HVS
      have HMD := Sd.mk (fun W1 (hb : RowKit.Below ((w.alloc (.cells #[.int .i64 sv, .int .i64 sl] 89)).alloc (.cells #[.int .u8 (a : Nat), .int .u8 (b : Nat)] 57)).heap.size ((w.alloc (.cells #[.int .i64 sv, .int .i64 sl] 89)).alloc (.cells #[.int .u8 (a : Nat), .int .u8 (b : Nat)] 57)) W1) => made_any W1 A c l (HS.out.below hb) H8.out n HN.out hle F hF)
      obtain ⟨bs, hbs⟩ : ∃ bs, chn l = bs := ⟨_, rfl⟩
      rw [hbs] at HCL HSZ HMD
      clear hF hbs HS H8 HN
      go_enter Try.func10, Try.ntmps10
      go_upto_region 1 with (fail)
      have HG5 := Sd.mk (show w.heap.size ≤ w.heap.size + 1 by omega)
      generalize w.heap.size + 1 = g5 at EA HG5 ⊢
      generalize hg4 : w.heap.size = g4 at ES ⊢
      generalize (w.alloc _).alloc _ = W1 at ES EA HB HMD ⊢
      go_upto_region 4 with (first
        | (go_at_call 52; (with_reducible refine (rlawake_any _).mono ?_); rintro e w2 ⟨rfl, hb⟩; have HB2 := Sd.mk hb; clear hb)
        | (go_at_call 53; (with_reducible refine (HMD.out _ HB2.out).mono ?_); rintro e w3 ⟨w0, g, A1, n1, c1, A2, n2, c2, A4, c4, rs, rfl, hf, hv, hb, hs, ha2⟩; have HF := Sd.mk hf; have HV := Sd.mk hv; have HB3 := Sd.mk (below_then HB2.out hb); have HS4 := Sd.mk hs; have HA2 := Sd.mk ha2; clear hf hv hb hs ha2))
      obtain ⟨k, hk⟩ : ∃ k, a % n = k := ⟨_, rfl⟩
      have hkn : k < n := by rw [← hk]; exact Nat.mod_lt _ (by omega)
      have hrem : ((a : Int)).tmod (n : Int) = (k : Int) := by rw [Int.tmod_eq_emod_of_nonneg (by omega), ← hk]; omega
      obtain ⟨x, hx⟩ : ∃ x, bs[k]? = some x := ⟨bs[k]'(by rw [HCL.out]; exact hkn), List.getElem?_eq_getElem _⟩
      obtain ⟨r, hr⟩ : ∃ r, rs[k]? = some r := ⟨rs[k]'(by rw [HA2.out.len, HCL.out]; exact hkn), List.getElem?_eq_getElem _⟩
      have HW := Sd.mk (HA2.out.get hr hx)
      obtain ⟨b1, o1, rfl, p0, p1, p2, p3, p4, p5⟩ := Kee.bk_at HS4.out.row hr
      rw [HW.out.wk.v] at p0
      rw [HW.out.wk.p] at p1
      rw [HW.out.wk.jv] at p2
      rw [HW.out.wk.jb] at p3
      rw [HW.out.wk.n] at p5
      have b8 := below_one w3 (.cells #[.string F.root, .int .i64 F.height, .slice A1 n1 c1, .slice A2 n2 c2] 70)
      have bx := below_then HF.out.bel b8
      have p0 := cell_below bx p0
      have p1 := cell_below bx p1
      have p2 := cell_below bx p2
      have p3 := cell_below bx p3
      have p4 := cell_below bx p4
      have p5 := cell_below bx p5
      have E8 := Sd.mk (blk_new w3 (.cells #[.string F.root, .int .i64 F.height, .slice A1 n1 c1, .slice A2 n2 c2] 70))
      have HF8 := Sd.mk (HF.out.below b8)
      have HV8 := Sd.mk (HV.out.below b8)
      have HB8 := Sd.mk (below_then HB3.out bx)
      have EA8 := Sd.mk (blk_keep EA.out HB8.out)
      have ES8 := Sd.mk (blk_keep ES.out HB8.out)
      clear hk hx hr b8 bx HS4 HA2 HF HV HB2 HB3 EA ES HMD
      generalize w3.heap.size = g8 at E8 ⊢
      generalize w3.alloc _ = W3 at p0 p1 p2 p3 p4 p5 E8 HF8 HV8 HB8 EA8 ES8 ⊢
      have a0 := blk_at EA8.out 0 _ rfl
      have kk0 : (0 : Int) ≤ (k : Int) := by omega
      have kk1 : (k : Int) < (n : Int) := by omega
      go_upto_region 5 with (fail)
      clear p0 p1 p2 p3 p4 p5 a0
      have b10 := below_drew' (below_one W3 (.cells #[.int .i64 x.view, .int .i64 x.prop, .int .i64 x.just.view, .string x.just.block, .slice r.sa r.sn r.sc, .slice r.a x.batch.length r.c] 42))
      have E10 := Sd.mk (blk_keep (blk_new W3 (.cells #[.int .i64 x.view, .int .i64 x.prop, .int .i64 x.just.view, .string x.just.block, .slice r.sa r.sn r.sc, .slice r.a x.batch.length r.c] 42)) (below_drew' (w := W3.alloc (.cells #[.int .i64 x.view, .int .i64 x.prop, .int .i64 x.just.view, .string x.just.block, .slice r.sa r.sn r.sc, .slice r.a x.batch.length r.c] 42)) (Below.refl _ _)))
      have HBW := Sd.mk b10
      obtain ⟨d, hd⟩ : ∃ d, digB x = d := ⟨_, rfl⟩
      have HDG := Sd.mk (fun W1 (hb : RowKit.Below (W3.alloc (.cells #[.int .i64 x.view, .int .i64 x.prop, .int .i64 x.just.view, .string x.just.block, .slice r.sa r.sn r.sc, .slice r.a x.batch.length r.c] 42)).drew.heap.size (W3.alloc (.cells #[.int .i64 x.view, .int .i64 x.prop, .int .i64 x.just.view, .string x.just.block, .slice r.sa r.sn r.sc, .slice r.a x.batch.length r.c] 42)).drew W1) => Blk.rdig_any W1 x r.sa r.sn r.sc r.a x.batch.length r.c (HW.out.wk.sl.below ((HF8.out.below HBW.out).below hb).bel) rfl d hd (by have := HW.out.sz; omega))
      have HDZ := Sd.mk (show d.size ≤ maxLen by rw [← hd, Blk.digB_size]; unfold maxLen; omega)
      clear hd b10
      generalize W3.heap.size = g10 at E10 ⊢
      go_cut [11] from 45 to 49 (fun v11 wx => ∃ g11, v11 = .pointer (some ⟨g11, 0, none⟩) ∧ Sd (RowKit.Below W3.heap.size W3 wx) ∧ Sd (W3.heap.size ≤ g11) ∧ Sd (wx.heap[g11]? = some (.cells #[.int .i64 x.view, .string d, .slice none 0 0] 39 (0, 0))))
      case first =>
        have HCE := Sd.mk (fun W2 (hb : RowKit.Below (W3.alloc (.cells #[.int .i64 x.view, .int .i64 x.prop, .int .i64 x.just.view, .string x.just.block, .slice r.sa r.sn r.sc, .slice r.a x.batch.length r.c] 42)).drew.heap.size (W3.alloc (.cells #[.int .i64 x.view, .int .i64 x.prop, .int .i64 x.just.view, .string x.just.block, .slice r.sa r.sn r.sc, .slice r.a x.batch.length r.c] 42)).drew W2) => show (fun W : World => W.cell? ⟨g10, 0, none⟩ = some (.int .i64 x.view) ∧ W.cell? ⟨g10, 1, none⟩ = some (.int .i64 x.prop) ∧ W.cell? ⟨g10, 2, none⟩ = some (.int .i64 x.just.view) ∧ W.cell? ⟨g10, 3, none⟩ = some (.string x.just.block) ∧ W.cell? ⟨g10, 4, none⟩ = some (.slice r.sa r.sn r.sc) ∧ W.cell? ⟨g10, 5, none⟩ = some (.slice r.a x.batch.length r.c)) W2 from ⟨blk_at (blk_keep E10.out hb) 0 _ rfl, blk_at (blk_keep E10.out hb) 1 _ rfl, blk_at (blk_keep E10.out hb) 2 _ rfl, blk_at (blk_keep E10.out hb) 3 _ rfl, blk_at (blk_keep E10.out hb) 4 _ rfl, blk_at (blk_keep E10.out hb) 5 _ rfl⟩)
        have S0 := HCE.out _ (Below.refl _ _)
        refine Peel.region_peel (n := 6) (S := (fun W : World => W.cell? ⟨g10, 0, none⟩ = some (.int .i64 x.view) ∧ W.cell? ⟨g10, 1, none⟩ = some (.int .i64 x.prop) ∧ W.cell? ⟨g10, 2, none⟩ = some (.int .i64 x.just.view) ∧ W.cell? ⟨g10, 3, none⟩ = some (.string x.just.block) ∧ W.cell? ⟨g10, 4, none⟩ = some (.slice r.sa r.sn r.sc) ∧ W.cell? ⟨g10, 5, none⟩ = some (.slice r.a x.batch.length r.c))) (by kernel_rfl) (by kernel_rfl) S0 (fun hHeld => ?_)
        simp only [List.take_succ_cons, List.take_zero]
        generalize (W3.alloc _).drew = W4 at HCE S0 hHeld HDG HBW ⊢
        clear S0 E10 HF8 HV8 HB8 E8 EA8 ES8
        (refine Peel.take 0 (v := ?_) rfl rfl (by kernel_rfl) (by kernel_rfl) (by kernel_rfl) (fun _ _ _ h => h) (by assumption) ?_ ?_; rotate_left; (focus (intro w hSw; (try dsimp only at hSw); obtain ⟨s0, s1, s2, s3, s4, s5⟩ := hSw; (try simp only [List.getElem_toArray, List.getElem_cons_succ, List.getElem_cons_zero]); go_simp; try (with_reducible rfl))); try simp only [List.getElem_toArray, List.getElem_cons_succ, List.getElem_cons_zero, Act.put, List.setIfInBounds_toArray, List.set_cons_zero, List.set_cons_succ])
        (refine Peel.take 1 (v := ?_) rfl rfl (by kernel_rfl) (by kernel_rfl) (by kernel_rfl) (fun _ _ _ h => h) (by assumption) ?_ ?_; rotate_left; (focus (intro w hSw; (try dsimp only at hSw); obtain ⟨s0, s1, s2, s3, s4, s5⟩ := hSw; (try simp only [List.getElem_toArray, List.getElem_cons_succ, List.getElem_cons_zero]); go_simp; try (with_reducible rfl))); try simp only [List.getElem_toArray, List.getElem_cons_succ, List.getElem_cons_zero, Act.put, List.setIfInBounds_toArray, List.set_cons_zero, List.set_cons_succ])
        (refine Peel.take 2 (v := ?_) rfl rfl (by kernel_rfl) (by kernel_rfl) (by kernel_rfl) (fun _ _ _ h => h) (by assumption) ?_ ?_; rotate_left; (focus (intro w hSw; (try dsimp only at hSw); obtain ⟨s0, s1, s2, s3, s4, s5⟩ := hSw; (try simp only [List.getElem_toArray, List.getElem_cons_succ, List.getElem_cons_zero]); go_simp; try (with_reducible rfl))); try simp only [List.getElem_toArray, List.getElem_cons_succ, List.getElem_cons_zero, Act.put, List.setIfInBounds_toArray, List.set_cons_zero, List.set_cons_succ])
        refine wpAnyH_ready (rs := [3, 5]) (by kernel_rfl) (by simp) ?_
        refine AllReadyH.cons rfl (fun K hK => ?_) (AllReadyH.cons rfl (fun K hK => ?_) AllReadyH.nil)
        · go_simp
          go_at_call 27
          refine (HDG.out _ (Below.refl _ _)).mono ?_
          rintro e w5 ⟨rfl, hb5⟩
          have s5 := HCE.out _ hb5
          have HB5 := Sd.mk hb5
          clear hb5
          (refine hK.out _ _ s5 (fun hHeld => ?_); (clear hK K; try simp only [List.getElem_toArray, List.getElem_cons_succ, List.getElem_cons_zero, Act.put, List.setIfInBounds_toArray, List.set_cons_zero, List.set_cons_succ]))
          clear s5
          (refine Peel.take 4 (v := ?_) rfl rfl (by kernel_rfl) (by kernel_rfl) (by kernel_rfl) (fun _ _ _ h => h) (by assumption) ?_ ?_; rotate_left; (focus (intro w hSw; (try dsimp only at hSw); obtain ⟨s0, s1, s2, s3, s4, s5⟩ := hSw; (try simp only [List.getElem_toArray, List.getElem_cons_succ, List.getElem_cons_zero]); go_simp; try (with_reducible rfl))); try simp only [List.getElem_toArray, List.getElem_cons_succ, List.getElem_cons_zero, Act.put, List.setIfInBounds_toArray, List.set_cons_zero, List.set_cons_succ])
          (refine wpAnyH_ready (rs := [5]) (by kernel_rfl) (by simp) ?_; refine AllReadyH.cons rfl (fun K hK => ?_) AllReadyH.nil)
          go_simp
          have s6 := HCE.out _ (below_then HB5.out (below_one w5 (.cells #[.int .i64 0, .string ⟨#[]⟩, .slice none 0 0] 39)))
          (refine hK.out _ _ s6 (fun hHeld => ?_); (clear hK K; try simp only [List.getElem_toArray, List.getElem_cons_succ, List.getElem_cons_zero, Act.put, List.setIfInBounds_toArray, List.set_cons_zero, List.set_cons_succ]))
          clear s6
          (refine wpAnyH_done (by kernel_rfl) ?_ _; simp only [Peel.Qn, List.drop_succ_cons, List.drop_zero]; clear hHeld)
          go_wp2
          go_meet
          exact ⟨_, rfl, ⟨below_then (below_then HBW.out HB5.out) (below_one w5 (.cells #[.int .i64 x.view, .string d, .slice none 0 0] 39))⟩, ⟨Nat.le_trans HBW.out.size HB5.out.size⟩, ⟨blk_new w5 (.cells #[.int .i64 x.view, .string d, .slice none 0 0] 39)⟩⟩
        · go_simp
          have b4 := below_one W4 (.cells #[.int .i64 0, .string ⟨#[]⟩, .slice none 0 0] 39)
          have s4 := HCE.out _ b4
          have EX4 := Sd.mk (blk_new W4 (.cells #[.int .i64 0, .string ⟨#[]⟩, .slice none 0 0] 39))
          have HB4 := Sd.mk b4
          clear b4
          (refine hK.out _ _ s4 (fun hHeld => ?_); (clear hK K; try simp only [List.getElem_toArray, List.getElem_cons_succ, List.getElem_cons_zero, Act.put, List.setIfInBounds_toArray, List.set_cons_zero, List.set_cons_succ]))
          clear s4
          have HG6 := Sd.mk (show W4.heap.size ≤ W4.heap.size from Nat.le_refl _)
          generalize hg6 : W4.heap.size = g6 at EX4 ⊢
          have HG6 := Sd.mk (show W3.heap.size ≤ g6 by have := HBW.out.size; omega)
          generalize W4.alloc _ = W5 at EX4 HB4 hHeld ⊢
          (refine wpAnyH_ready (rs := [3]) (by kernel_rfl) (by simp) ?_; refine AllReadyH.cons rfl (fun K hK => ?_) AllReadyH.nil)
          go_simp
          go_at_call 27
          refine (HDG.out _ HB4.out).mono ?_
          rintro e w5 ⟨rfl, hb5⟩
          have HB5 := Sd.mk (below_then HB4.out hb5)
          have EX5 := Sd.mk (blk_keep EX4.out hb5)
          have s5 := HCE.out _ HB5.out
          clear hb5
          (refine hK.out _ _ s5 (fun hHeld => ?_); (clear hK K; try simp only [List.getElem_toArray, List.getElem_cons_succ, List.getElem_cons_zero, Act.put, List.setIfInBounds_toArray, List.set_cons_zero, List.set_cons_succ]))
          clear s5
          (refine Peel.take 4 (v := ?_) rfl rfl (by kernel_rfl) (by kernel_rfl) (by kernel_rfl) (fun _ _ _ h => h) (by assumption) ?_ ?_; rotate_left; (focus (intro w hSw; (try dsimp only at hSw); obtain ⟨s0, s1, s2, s3, s4, s5⟩ := hSw; (try simp only [List.getElem_toArray, List.getElem_cons_succ, List.getElem_cons_zero]); go_simp; try (with_reducible rfl))); try simp only [List.getElem_toArray, List.getElem_cons_succ, List.getElem_cons_zero, Act.put, List.setIfInBounds_toArray, List.set_cons_zero, List.set_cons_succ])
          (refine wpAnyH_done (by kernel_rfl) ?_ _; simp only [Peel.Qn, List.drop_succ_cons, List.drop_zero]; clear hHeld)
          have e0 := blk_at EX5.out 0 _ rfl
          have e1 := blk_at EX5.out 1 _ rfl
          have e2 := blk_at EX5.out 2 _ rfl
          have f0 := blk_frz EX5.out 0
          have f1 := blk_frz EX5.out 1
          have f2 := blk_frz EX5.out 2
          clear hg6
          go_wp2
          go_meet
          exact ⟨g6, rfl, ⟨(((below_then HBW.out HB5.out).setCell (p := ⟨g6, 0, none⟩) HG6.out _).setCell (p := ⟨g6, 1, none⟩) HG6.out _).setCell (p := ⟨g6, 2, none⟩) HG6.out _⟩, HG6, ⟨blk_set3 (blk_set3 (blk_set3 EX5.out 0 (.int .i64 x.view)) 1 (.string d)) 2 (.slice none 0 0)⟩⟩
      case rest =>
        obtain ⟨g11, rfl, HBb, HG11, E11⟩ := hcut
        clear E10 HDG HW HBW
        generalize wc = W5 at HBb E11 ⊢
        have a1 := blk_at (blk_keep EA8.out HBb.out) 1 _ rfl
        go_upto_if 53 with (fail)
        go_cut [] from 54 to 59 (fun wx => ∃ cv, Sd (RowKit.Below W3.heap.size W3 wx) ∧ Sd (wx.heap[g11]? = some (.cells #[.int .i64 cv, .string d, .slice none 0 0] 39 (0, 0))))
        case first =>
          have hb1 : (0 : Int) ≤ (b : Int) := by omega
          have hb2 : (b : Int) < 256 := by have := HBB.out; omega
          have e0 := blk_at E11.out 0 _ rfl
          have e1 := blk_at E11.out 1 _ rfl
          have e2 := blk_at E11.out 2 _ rfl
          have f0 := blk_frz E11.out 0
          have f1 := blk_frz E11.out 1
          have f2 := blk_frz E11.out 2
          go_wp2
          all_goals (go_meet; first | exact ⟨x.view, HBb, E11⟩ | exact ⟨(b : Int), ⟨((HBb.out.setCell (p := ⟨g11, 0, none⟩) HG11.out _).setCell (p := ⟨g11, 1, none⟩) HG11.out _).setCell (p := ⟨g11, 2, none⟩) HG11.out _⟩, ⟨blk_set3 (blk_set3 (blk_set3 E11.out 0 (.int .i64 (b : Int))) 1 (.string d)) 2 (.slice none 0 0)⟩⟩)
        case rest =>
          obtain ⟨cv, HBd, E12⟩ := hcut
          clear E11 HBb a1
          generalize wc = W6 at HBd E12 ⊢
          have a1 := blk_at (blk_keep EA8.out HBd.out) 1 _ rfl
          go_upto_if 63 with (fail)
          have HRZ := Sd.mk (show F.root.size ≤ maxLen by rw [HOK.out.2.2.1, Crt.FB_size]; unfold maxLen; omega)
          go_cut [] from 64 to 66 (fun wx => ∃ cv ch, Sd (ch.size ≤ maxLen) ∧ Sd (RowKit.Below W3.heap.size W3 wx) ∧ Sd (wx.heap[g11]? = some (.cells #[.int .i64 cv, .string ch, .slice none 0 0] 39 (0, 0))))
          case first =>
            have r0 := blk_at (blk_keep E8.out HBd.out) 0 _ rfl
            have e0 := blk_at E12.out 0 _ rfl
            have e1 := blk_at E12.out 1 _ rfl
            have e2 := blk_at E12.out 2 _ rfl
            have f0 := blk_frz E12.out 0
            have f1 := blk_frz E12.out 1
            have f2 := blk_frz E12.out 2
            go_wp2
            all_goals (go_meet; first | exact ⟨cv, d, HDZ, HBd, E12⟩ | exact ⟨0, F.root, HRZ, ⟨((HBd.out.setCell (p := ⟨g11, 0, none⟩) HG11.out _).setCell (p := ⟨g11, 1, none⟩) HG11.out _).setCell (p := ⟨g11, 2, none⟩) HG11.out _⟩, ⟨blk_set3 (blk_set3 (blk_set3 E12.out 0 (.int .i64 0)) 1 (.string F.root)) 2 (.slice none 0 0)⟩⟩)
          case rest =>
            obtain ⟨cv, ch, HCZ, HBe, E13⟩ := hcut
            clear E12 HBd a1 HDZ HRZ
            generalize wc = W7 at HBe E13 ⊢
            have E8b := Sd.mk (blk_keep E8.out HBe.out)
            have ES8b := Sd.mk (blk_keep ES8.out HBe.out)
            have HF7 := Sd.mk (HF8.out.below HBe.out)
            have HV7 := Sd.mk (HV8.out.below HBe.out)
            have HB7 := Sd.mk (below_then HB.out (below_then HB8.out HBe.out))
            clear E8 ES8 HF8 HV8 HB8 HBe EA8
            obtain ⟨o, ho⟩ : ∃ o, cmt F cv ch = o := ⟨_, rfl⟩
            obtain ⟨q, hq⟩ : ∃ q, lrn F cv ch sl = q := ⟨_, rfl⟩
            have HGE := Sd.mk (show sl ≤ q by rw [← hq]; exact lrn_ge _ _ _ _)
            have HC1 := Sd.mk (fun W1 (hb : RowKit.Below W7.heap.size W7 W1) => commit_any (HF7.out.below hb) HVS.out cv ch HCZ.out none 0 0 o ho)
            have HC2 := Sd.mk (fun W1 (hb : RowKit.Below W7.heap.size W7 W1) => refcommit_any (HV7.out.below hb) HOK.out.2.1 HVS.out cv ch none 0 0 o ho)
            have HL1 := Sd.mk (fun W1 (hb : RowKit.Below W7.heap.size W7 W1) => learn_any (HF7.out.below hb) sv sl cv ch HCZ.out none 0 0 q hq)
            have HL2 := Sd.mk (fun W1 (hb : RowKit.Below W7.heap.size W7 W1) => reflearn_any (HV7.out.below hb) HOK.out.2.1 sv sl cv ch none 0 0 q hq)
            obtain ⟨so, hso⟩ : ∃ s, sO o = s := ⟨_, rfl⟩
            obtain ⟨bo, hbo⟩ : ∃ s, o.isSome = s := ⟨_, rfl⟩
            rw [hso, hbo] at HC1 HC2
            clear ho hq hso hbo HF7 HV7 HCZ
            have k0 := blk_at E13.out 0 _ rfl
            have k1 := blk_at E13.out 1 _ rfl
            have k2 := blk_at E13.out 2 _ rfl
            go_upto_region 11 with (first
              | (go_at_call 54; (with_reducible refine (HC1.out _ (Below.refl _ _)).mono ?_); rintro e wa ⟨rfl, hb⟩; have HBf := Sd.mk hb; clear hb))
            clear k0 k1 k2
            have Ea := Sd.mk (blk_keep E13.out HBf.out)
            have k0 := blk_at Ea.out 0 _ rfl
            have k1 := blk_at Ea.out 1 _ rfl
            have k2 := blk_at Ea.out 2 _ rfl
            have E8c := Sd.mk (blk_keep E8b.out HBf.out)
            have c0 := blk_at E8c.out 0 _ rfl
            have c1' := blk_at E8c.out 1 _ rfl
            have c2' := blk_at E8c.out 2 _ rfl
            have c3 := blk_at E8c.out 3 _ rfl
            go_upto_region 12 with (first
              | (go_at_call 55; (with_reducible refine (HC2.out _ HBf.out).mono ?_); rintro e wb ⟨rfl, hb⟩; have HBg := Sd.mk (below_then HBf.out hb); clear hb))
            clear k0 k1 k2 c0 c1' c2' c3 Ea E8c
            have Ea := Sd.mk (blk_keep E13.out HBg.out)
            have k0 := blk_at Ea.out 0 _ rfl
            have k1 := blk_at Ea.out 1 _ rfl
            have k2 := blk_at Ea.out 2 _ rfl
            have Es := Sd.mk (blk_keep ES8b.out HBg.out)
            have m0 := blk_at Es.out 0 _ rfl
            have m1 := blk_at Es.out 1 _ rfl
            go_upto_region 13 with (first
              | (go_at_call 56; (with_reducible refine (HL1.out _ HBg.out).mono ?_); rintro e wd ⟨rfl, hb⟩; have HBh := Sd.mk (below_then HBg.out hb); clear hb))
            clear k0 k1 k2 m0 m1 Ea Es
            have b16 := below_one wd (.cells #[.int .i64 sv, .int .i64 q] 89)
            have E16 := Sd.mk (blk_new wd (.cells #[.int .i64 sv, .int .i64 q] 89))
            have HBi := Sd.mk (below_then HBh.out b16)
            generalize wd.heap.size = g16 at E16 ⊢
            generalize wd.alloc _ = W9 at E16 HBi ⊢
            have Ea := Sd.mk (blk_keep E13.out HBi.out)
            have Es := Sd.mk (blk_keep ES8b.out HBi.out)
            have E8c := Sd.mk (blk_keep E8b.out HBi.out)
            clear b16 HBh HBg HBf E13 ES8b E8b
            have k0 := fun d os => cell_regrown (blk_at Ea.out 0 _ rfl) d os
            have k1 := fun d os => cell_regrown (blk_at Ea.out 1 _ rfl) d os
            have k2 := fun d os => cell_regrown (blk_at Ea.out 2 _ rfl) d os
            have m0 := fun d os => cell_regrown (blk_at Es.out 0 _ rfl) d os
            have m1 := fun d os => cell_regrown (blk_at Es.out 1 _ rfl) d os
            have n0 := fun d os => cell_regrown (blk_at E16.out 0 _ rfl) d os
            have n1' := fun d os => cell_regrown (blk_at E16.out 1 _ rfl) d os
            have c0 := fun d os => cell_regrown (blk_at E8c.out 0 _ rfl) d os
            have c1' := fun d os => cell_regrown (blk_at E8c.out 1 _ rfl) d os
            have c2' := fun d os => cell_regrown (blk_at E8c.out 2 _ rfl) d os
            have c3 := fun d os => cell_regrown (blk_at E8c.out 3 _ rfl) d os
            have kge : decide (sl ≤ q) = true := decide_eq_true HGE.out
            refine wp_region_quiet_below (by assumption) (by kernel_rfl) ?_
            repeat (go_big_quiet_step ((go_at_call 57; with_reducible refine Calls.regrown_of (HL2.out _ (below_then HBi.out (below_regrown _ _ _))))))
            refine wpQuiet_nil ?_
            rintro W10 ⟨⟨nq, osq⟩, rfl⟩
            have HB10 := Sd.mk (below_then (below_then HB7.out HBi.out) (below_regrown W9 nq osq))
            go_wp2
            go_ret
            exact ⟨rfl, by have h := HB10.out; first | exact h | rwa [hg4] at h⟩
  · have d30 : decide ((30 : Int) < (n : Int)) = true := decide_eq_true (by omega)
    have d30b : decide (30 < n) = true := decide_eq_true (by omega)
    go_enter Try.func10, Try.ntmps10
    go_upto_region 1 with (fail)
    generalize (w.alloc _).alloc _ = W1 at HB ⊢
    go_wp2_with (first
      | (go_at_call 52; (with_reducible refine (rlawake_any _).mono ?_); rintro e w2 ⟨rfl, hb⟩; have HB2 := Sd.mk (below_then HB.out hb); clear HB; have HB := HB2; clear HB2 hb))
    go_ret
    exact ⟨rfl, HB.out⟩
-- L1>
def stK : Rk (Int × Int × Unit) := Rk.pair (Rk.int .i64) (Rk.pair (Rk.int .i64) Rk.unit)
theorem opens_st : Opens Try.prog 89 stK :=
  opens_struct Try.underlying89 (by kernel_rfl) (fs_cons rfl (by kernel_rfl) (opens_int Try.underlying3) (fs_cons rfl (by kernel_rfl) (opens_int Try.underlying3) (fs_nil _)))
theorem opens_a2 : Opens Try.prog 57 (Rk.arr (Rk.int .u8) 2) := Arr.opens_arr Try.underlying57 (opens_int Try.underlying5) (by kernel_rfl) (by kernel_rfl)
theorem a2_of {w : World} {l : List Int} {cs : Array Value} (h : (Rk.arr (Rk.int .u8) 2).K w l cs.toList) : ∃ a b : Nat, cs = #[.int .u8 (a : Nat), .int .u8 (b : Nat)] ∧ a < 256 ∧ b < 256 := by
  obtain ⟨a, r, c0, c1, rfl, e, ⟨rfl, wa⟩, b, r2, c2, c3, rfl, rfl, ⟨rfl, wb⟩, rfl, rfl⟩ := h
  obtain ⟨a', rfl, ha⟩ := Kee.u8_of wa
  obtain ⟨b', rfl, hb⟩ := Kee.u8_of wb
  exact ⟨a', b', Api.arr_of e, ha, hb⟩
theorem rl_row (w : World) (A : Option Addr) (c : Nat) (l : List (List Int)) (h1 : l.length ≤ c) (h2 : c ≤ maxLen) (h3 : Row (Rk.arr (Rk.int .u8) 3) w A l) (s : Int × Int × Unit) (cs : Array Value) (hs : stK.K w s cs.toList) (at_ : List Int) (cs2 : Array Value) (ha : (Rk.arr (Rk.int .u8) 2).K w at_ cs2.toList) :
    Calls Try.prog 10 #[.slice A l.length c, .agg cs, .agg cs2] w fun e w' => e = .returned (.bool true) ∧ RowKit.Below w.heap.size w w' := by
  obtain ⟨l', hl, hsl, h8⟩ := Kee.tl_of h1 h2 h3
  obtain ⟨_, _, e, ⟨rfl, _⟩, _, _, rfl, ⟨rfl, _⟩, rfl⟩ := hs
  obtain rfl := Api.arr_of e
  obtain ⟨a, b, rfl, ha1, hb1⟩ := a2_of ha
  exact rl_law w A c l' hsl h8 _ hl.symm _ _ a b ha1 hb1
end Go.Proofs.Ytnomgkmeomlccaa.Fst
