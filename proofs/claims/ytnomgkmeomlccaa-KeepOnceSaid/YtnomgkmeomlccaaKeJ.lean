/- comitiaref11.Requests of a chain that is told: walked. -/
import Derived.Test.YtnomgkmeomlccaaKeF
import Derived.Test.YtnomgkmeomlccaaKeG
set_option linter.unusedVariables false
set_option linter.unusedSimpArgs false

namespace Go.Proofs.Ytnomgkmeomlccaa.Kee
open Go.RowKit Go.Sort Rd Api Own Mv App Num Dig
open Blk (Block Rq rqN fR fR_one rq_at rkey Ro info_rq digB coreB step_appends_at own_rq own_nc own_emptyR row_rq1 twice_any Dup)

/-- rows on the way: a copy, and one request by itself -/
structure Yz (W5 : World) (q : Rq) (v : Option Value) (l1 : List Rq) (k4 : Option Nat) (W : World) : Prop where
  bel : RowKit.Below W5.heap.size W5 W
  ov : ∀ u, v = some u → OwnR fR 3 W 0 47 u l1 ∧ ∀ k, u.ownBlock = some k → W5.heap.size ≤ k
  r4 : ∀ k, k4 = some k → W.heap[k]? = some (.cells (fR q).toArray 47 (0, 0)) ∧ ∀ u, v = some u → u.ownBlock ≠ some k
section
variable {W5 W W1 : World} {q : Rq} {v : Option Value} {u v1 : Value} {l1 l2 : List Rq} {k4 : Option Nat}
theorem Yz.o0 (h : Yz W5 q none l1 k4 W) : Yz W5 q (some (.slice (some ⟨W.heap.size, 0, none⟩) 0 0)) [] k4 (W.alloc (.cells #[] 47)) := by
  have hb := below_one W (.cells #[] 47)
  refine ⟨below_then h.bel hb, fun u e => ?_, fun k e => ⟨blk_keep (h.r4 k e).1 hb, fun u e2 e3 => ?_⟩⟩
  · cases Option.some.inj e
    exact ⟨own_emptyR W _, fun k hk => (by simp [Value.ownBlock] at hk; have := h.bel.size; omega)⟩
  · cases Option.some.inj e2
    have := blk_lt' (h.r4 k e).1
    simp [Value.ownBlock] at e3
    omega
theorem Yz.o4 (h : Yz W5 q v l1 none W) : Yz W5 q v l1 (some W.heap.size) (W.alloc (.cells (fR q).toArray 47)) := by
  have hb := below_one W (.cells (fR q).toArray 47)
  refine ⟨below_then h.bel hb, fun u e => ⟨(h.ov u e).1.below hb, (h.ov u e).2⟩, fun k e => ?_⟩
  cases Option.some.inj e
  exact ⟨blk_new W _, fun u e2 e3 => by have := (OwnR.ge (h.ov u e2).1 e3).2; omega⟩
theorem Yz.app (h : Yz W5 q (some u) l1 k4 W) (ho : OwnR fR 3 W1 0 47 v1 l2) (hg : W.grownBy W1 u.ownBlock) (hn : v1.ownBlock = u.ownBlock ∨ v1.ownBlock = some W.heap.size) : Yz W5 q (some v1) l2 k4 W1 := by
  have hu := h.ov u rfl
  refine ⟨below_grown h.bel hg h.bel.size hu.2, fun u' e => ?_, fun k e => ⟨blk_grown (h.r4 k e).1 hg ((h.r4 k e).2 u rfl), fun u' e2 e3 => ?_⟩⟩
  · cases Option.some.inj e
    refine ⟨ho, fun k hk => ?_⟩
    rcases hn with e | e
    · exact hu.2 k (e ▸ hk)
    · rw [hk] at e
      cases Option.some.inj e
      exact h.bel.size
  · cases Option.some.inj e2
    rcases hn with e4 | e4
    · exact (h.r4 k e).2 u rfl (e4.symm.trans e3)
    · rw [e3] at e4
      have := blk_lt' (h.r4 k e).1
      cases Option.some.inj e4
      omega
end
theorem ro_push {w W W1 : World} {v v1 : Value} {k : List Rq} {x : Rq} (h : Ro w v k W) (ho : OwnR fR 3 W1 0 47 v1 (k ++ [x])) (hg : W.grownBy W1 v.ownBlock) (hn : v1.ownBlock = v.ownBlock ∨ v1.ownBlock = some (W.heap.size + 1)) : Ro w v1 (k ++ [x]) W1 := by
  refine ⟨ho, fun j hj => ?_, below_grown h.bel hg h.bel.size h.new⟩
  rcases hn with e | e
  · exact h.new j (e ▸ hj)
  · rw [hj] at e
    cases Option.some.inj e
    have := h.bel.size
    omega
-- <L1
set_option maxHeartbeats 16000000 in
set_option maxRecDepth 100000 in
theorem refreqs_any (w0 w : World) (hw : RowKit.Below w0.heap.size w0 w) (A : Option Addr) (c : Nat) (rs : List Bk) (l : List Tl) (hsl : Sl bkK w0 A c rs) (n : Nat) (hn : n = l.length) (hl : rs.length = l.length) (hi : ∀ (j : Nat) (r : Bk) (x : Block), rs[j]? = some r → (chn l)[j]? = some x → Wk w0 r x) (hlen : n ≤ 40) :
    Calls Try.prog 18 #[.slice A n c] w fun e w' => ∃ v, e = .returned v ∧ Ro w v (rqs l) w' := by
  have mixed : Try.prog.follows .mixedOrders = true := by kernel_rfl
  have hc1 := hsl.le
  have hc2 := hsl.cap
  rw [hl, ← hn] at hc1
  have HR := Sd.mk hsl.row
  have HB0 := Sd.mk hw
  have HI := Sd.mk hi
  have HN := Sd.mk hn
  have HL := Sd.mk hl
  clear hw hi hsl hn hl
  go_enter Try.func18, Try.ntmps18
  go_wp2
  go_loopg [3, 4, 5, 6] n (fun gk v3 v4 v5 v6 wr => ∃ i, i + gk = n ∧ v4 = .int .i64 (i : Nat) ∧ Sd (Ro w v3 (rqs (l.take i)) wr))
  case atStart => exact ⟨0, by omega, rfl, ⟨⟨OwnR.nil _ _ _ _ _, fun k hk => (by simp [Value.ownBlock] at hk), Below.refl _ _⟩⟩⟩
  case round =>
    obtain ⟨i, hi, rfl, HS⟩ := hrel
    by_cases hlt : i < n
    · have hii : (i : Int) < n := by omega
      obtain ⟨p, hp⟩ : ∃ p, l[i]? = some p := ⟨l[i]'(by rw [← HN.out]; exact hlt), List.getElem?_eq_getElem _⟩
      obtain ⟨x, hst⟩ := stp hp
      obtain ⟨r, hr⟩ : ∃ r, rs[i]? = some r := ⟨rs[i]'(by rw [HL.out, ← HN.out]; exact hlt), List.getElem?_eq_getElem _⟩
      obtain ⟨q, hq⟩ : ∃ q, rqAt i p = q := ⟨_, rfl⟩
      rw [hq] at hst
      have HST := Sd.mk hst
      have HWK := Sd.mk (HI.out i r x hr hst.at_)
      obtain ⟨b1, o1, hA, p0, p1, p2, p3, p4, p5⟩ := wk_at HR.out hr HWK.out
      subst hA
      obtain ⟨b2, o2, hA2, -, -, -⟩ := rq_at HWK.out.sl.row (i := 0) (x := q) (by rw [hst.bat]; rfl)
      rw [hA2, show x.batch.length = 1 by rw [hst.bat]; rfl] at p5
      have HA2 := Sd.mk hA2
      have HP5 := Sd.mk p5
      have hrc : 1 ≤ r.c := by have := HWK.out.sl.le; rwa [show x.batch.length = 1 by rw [hst.bat]; rfl] at this
      have hrcm := HWK.out.sl.cap
      clear p0 p1 p2 p3 p4 p5 hp hst hr hq hA2
      obtain ⟨gko, hgo⟩ : ∃ z, gk = z := ⟨_, rfl⟩
      go_wp2
      go_loopg [3, 5, 6] 1 (fun gk v3 v5 v6 wr => ∃ j, j + gk = 1 ∧ v5 = .int .i64 (j : Nat) ∧ Sd (Ro w v3 (rqs (l.take i) ++ x.batch.take j) wr))
      case atStart => exact ⟨0, by omega, rfl, ⟨by simpa using HS.out⟩⟩
      case round =>
        clear HS
        obtain ⟨j, hj, rfl, HSJ⟩ := hrel
        have hp5 := cell_below (below_then HB0.out HSJ.out.bel) HP5.out
        by_cases hjt : j < 1
        · have hjj : (j : Int) < 1 := by omega
          have HJ0 := Sd.mk (show x.batch.take j = [] by rw [show j = 0 by omega]; rfl)
          have hbj : x.batch[j]? = some q := by rw [show j = 0 by omega, HST.out.bat]; rfl
          obtain ⟨b3, o3, hbb, p0, p1, p2⟩ := rq_at HWK.out.sl.row hbj
          rw [HA2.out] at hbb
          simp only [Option.some.injEq, Addr.mk.injEq] at hbb
          obtain ⟨rfl, rfl, -⟩ := hbb
          have HBL := Sd.mk (below_then HB0.out HSJ.out.bel)
          have q0 := cell_below HBL.out p0
          have q1 := cell_below HBL.out p1
          have q2 := cell_below HBL.out p2
          have HJN := Sd.mk (show x.batch.take (j + 1) = [q] by rw [show j = 0 by omega, HST.out.bat]; rfl)
          rw [HJ0.out, List.append_nil] at HSJ
          obtain ⟨out, hout⟩ : ∃ out, rqs (l.take i) = out := ⟨_, rfl⟩
          have HDP := Sd.mk HST.out.dup
          have HOL := Sd.mk HST.out.len
          rw [hout] at HSJ HDP HOL
          have HOU := Sd.mk hout
          obtain ⟨A3, c3, he3, hs3⟩ := own_rq HSJ.out.own
          subst he3
          rw [HOL.out] at HSJ
          rw [HOL.out]
          have HNC := Sd.mk (own_nc HSJ.out.own A3 _ c3 rfl)
          have HRR := Sd.mk hs3.row
          clear p0 p1 p2 hbj hout HBL hs3
          go_upto_region 9 with (fail)
          have b6 := below_one wr (.cells #[.int .i64 q.c, .int .i64 q.s, .string q.b] 47)
          have E6 := Sd.mk (blk_keep (blk_new wr (.cells #[.int .i64 q.c, .int .i64 q.s, .string q.b] 47)) (below_drew' (w := wr.alloc (.cells #[.int .i64 q.c, .int .i64 q.s, .string q.b] 47)) (Below.refl _ _)))
          have HRO := Sd.mk (HSJ.out.below (below_drew' b6))
          have HRW0 := Sd.mk (HRR.out.below (below_drew' b6))
          clear b6 q0 q1 q2 hp5 HSJ HRR
          generalize wr.heap.size = g6 at E6 ⊢
          generalize wr.alloc _ = W6 at E6 HRO HRW0 ⊢
          have S0 : (fun W : World => W.cell? ⟨g6, 0, none⟩ = some (.int .i64 q.c) ∧ W.cell? ⟨g6, 1, none⟩ = some (.int .i64 q.s) ∧ W.cell? ⟨g6, 2, none⟩ = some (.string q.b)) W6.drew := ⟨blk_at E6.out 0 _ rfl, blk_at E6.out 1 _ rfl, blk_at E6.out 2 _ rfl⟩
          refine Peel.region_peel (n := 7) (S := (fun W : World => W.cell? ⟨g6, 0, none⟩ = some (.int .i64 q.c) ∧ W.cell? ⟨g6, 1, none⟩ = some (.int .i64 q.s) ∧ W.cell? ⟨g6, 2, none⟩ = some (.string q.b))) (by kernel_rfl) (by kernel_rfl) S0 (fun hHeld => ?_)
          simp only [List.take_succ_cons, List.take_zero]
          clear S0
          generalize W6.drew = W5 at E6 HRO HRW0 hHeld ⊢
          have HCE := Sd.mk (fun W (hb : RowKit.Below W5.heap.size W5 W) => show (fun W : World => W.cell? ⟨g6, 0, none⟩ = some (.int .i64 q.c) ∧ W.cell? ⟨g6, 1, none⟩ = some (.int .i64 q.s) ∧ W.cell? ⟨g6, 2, none⟩ = some (.string q.b)) W from ⟨blk_at (blk_keep E6.out hb) 0 _ rfl, blk_at (blk_keep E6.out hb) 1 _ rfl, blk_at (blk_keep E6.out hb) 2 _ rfl⟩)
          have HRW := Sd.mk (fun W (hb : RowKit.Below W5.heap.size W5 W) => HRW0.out.below hb)
          have HY := Sd.mk (show Yz W5 q none [] none W5 from ⟨Below.refl _ _, fun u e => (by cases e), fun k e => (by cases e)⟩)
          clear E6 HRW0
          (refine Peel.take 1 (v := ?_) rfl rfl (by kernel_rfl) (by kernel_rfl) (by kernel_rfl) (fun _ _ _ h => h) (by assumption) ?_ ?_; rotate_left; (focus (intro w hSw; (try dsimp only at hSw); obtain ⟨s0, s1, s2⟩ := hSw; (try simp only [List.getElem_toArray, List.getElem_cons_succ, List.getElem_cons_zero]); go_simp; try (with_reducible rfl))); try simp only [List.getElem_toArray, List.getElem_cons_succ, List.getElem_cons_zero, Act.put, List.setIfInBounds_toArray, List.set_cons_zero, List.set_cons_succ])
          (refine Peel.take 3 (v := ?_) rfl rfl (by kernel_rfl) (by kernel_rfl) (by kernel_rfl) (fun _ _ _ h => h) (by assumption) ?_ ?_; rotate_left; (focus (intro w hSw; (try dsimp only at hSw); obtain ⟨s0, s1, s2⟩ := hSw; (try simp only [List.getElem_toArray, List.getElem_cons_succ, List.getElem_cons_zero]); go_simp; try (with_reducible rfl))); try simp only [List.getElem_toArray, List.getElem_cons_succ, List.getElem_cons_zero, Act.put, List.setIfInBounds_toArray, List.set_cons_zero, List.set_cons_succ])
          (refine wpAnyH_ready (rs := [0, 4]) (by kernel_rfl) (by simp) ?_; refine AllReadyH.cons rfl (fun K hK => ?_) (AllReadyH.cons rfl (fun K hK => ?_) AllReadyH.nil))
          · (go_simp; have HYN := Sd.mk HY.out.o0; (clear hHeld; have hHeld := HCE.out _ HYN.out.bel; refine hK.out _ _ hHeld (fun hHeld => ?_); clear HY; (clear hK K; try simp only [List.getElem_toArray, List.getElem_cons_succ, List.getElem_cons_zero, Act.put, List.setIfInBounds_toArray, List.set_cons_zero, List.set_cons_succ])); generalize W5.heap.size = k0 at HYN ⊢; generalize W5.alloc _ = Wa at HYN hHeld ⊢; have HY := HYN; clear HYN)
            (refine wpAnyH_ready (rs := [2, 4]) (by kernel_rfl) (by simp) ?_; refine AllReadyH.cons rfl (fun K hK => ?_) (AllReadyH.cons rfl (fun K hK => ?_) AllReadyH.nil))
            · (refine step_appends_at (d := rqN) (f := fR) (n := 3) (fun _ _ _ => Iff.rfl) rfl (fun _ => rfl) fR_one rfl (.tmp 31) (.tmp 32) 33 47 (.agg #[.int .i64 0, .int .i64 0, .string ByteArray.empty]) 32 rfl Try.underlying33 info_rq rfl (by decide) _ [] out A3 i c3 HOL.out.symm rfl rfl (HRW.out _ HY.out.bel) HNC.out (HY.out.ov _ rfl).1 (by rw [HOL.out, List.length_nil]; omega) (by rw [HOL.out, List.length_nil]; omega) ?_; intro v1 Wb hown hg hob; rw [List.nil_append] at hown; have HYN := Sd.mk (HY.out.app hown hg hob); clear hown hg hob; (clear hHeld; have hHeld := HCE.out _ HYN.out.bel; refine hK.out _ _ hHeld (fun hHeld => ?_); clear HY; (clear hK K; try simp only [List.getElem_toArray, List.getElem_cons_succ, List.getElem_cons_zero, Act.put, List.setIfInBounds_toArray, List.set_cons_zero, List.set_cons_succ])); have HY := HYN; clear HYN)
              (refine wpAnyH_ready (rs := [4]) (by kernel_rfl) (by simp) ?_; refine AllReadyH.cons rfl (fun K hK => ?_) AllReadyH.nil)
              (go_simp; have HYN := Sd.mk HY.out.o4; dsimp only [fR] at HYN; (clear hHeld; have hHeld := HCE.out _ HYN.out.bel; refine hK.out _ _ hHeld (fun hHeld => ?_); clear HY; (clear hK K; try simp only [List.getElem_toArray, List.getElem_cons_succ, List.getElem_cons_zero, Act.put, List.setIfInBounds_toArray, List.set_cons_zero, List.set_cons_succ])); generalize Wb.heap.size = k4 at HYN ⊢; generalize Wb.alloc _ = Wc at HYN hHeld ⊢; have HY := HYN; clear HYN)
              ((refine wpAnyH_ready (rs := [5]) (by kernel_rfl) (by simp) ?_; refine AllReadyH.cons rfl (fun K hK => ?_) AllReadyH.nil); refine step_appends_at (d := rqN) (f := fR) (n := 3) (fun _ _ _ => Iff.rfl) rfl (fun _ => rfl) fR_one rfl (.tmp 33) (.tmp 35) 33 47 (.agg #[.int .i64 0, .int .i64 0, .string ByteArray.empty]) 32 rfl Try.underlying33 info_rq rfl (by decide) _ out [q] _ 1 1 rfl rfl rfl (row_one (d := rqN) (f := fR) (fun _ _ => rfl) (HY.out.r4 _ rfl).1) (fun e => by cases e) (HY.out.ov _ rfl).1 (by rw [HOL.out, List.length_singleton]; omega) (by rw [HOL.out, List.length_singleton]; omega) ?_; intro v2 Wd hown hg hob; have HYN := Sd.mk (HY.out.app hown hg hob); clear hown hg hob; (clear hHeld; have hHeld := HCE.out _ HYN.out.bel; refine hK.out _ _ hHeld (fun hHeld => ?_); clear HY; (clear hK K; try simp only [List.getElem_toArray, List.getElem_cons_succ, List.getElem_cons_zero, Act.put, List.setIfInBounds_toArray, List.set_cons_zero, List.set_cons_succ])); have HY := HYN; clear HYN)
              (obtain ⟨A7, q7, he7, hs7⟩ := own_rq (HY.out.ov _ rfl).1; subst he7; have hle : (out ++ [q]).length = i + 1 := (by rw [List.length_append, HOL.out]; rfl); rw [hle]; have HTW := Sd.mk (twice_any Wd A7 q7 (out ++ [q]) hs7 (i + 1) hle.symm false (by constructor; (intro e; cases e); (intro e; exact absurd e HDP.out))); clear hs7 hle; (refine wpAnyH_ready (rs := [6]) (by kernel_rfl) (by simp) ?_; refine AllReadyH.cons rfl (fun K hK => ?_) AllReadyH.nil); go_simp; go_at_call 59; refine HTW.out.mono ?_; rintro e w8 ⟨rfl, hb8⟩; have HB8 := Sd.mk (below_then HY.out.bel hb8); clear hb8; clear hHeld; have hHeld := HCE.out _ HB8.out; refine hK.out _ _ hHeld (fun hHeld => ?_); clear HY HTW; (clear hK K; try simp only [List.getElem_toArray, List.getElem_cons_succ, List.getElem_cons_zero, Act.put, List.setIfInBounds_toArray, List.set_cons_zero, List.set_cons_succ]))
              ((refine wpAnyH_done (by kernel_rfl) ?_ _; simp only [Peel.Qn, List.drop_succ_cons, List.drop_zero]; clear hHeld); have HRO8 := Sd.mk (HRO.out.below HB8.out); obtain ⟨t0, t1, t2⟩ := HCE.out _ HB8.out; clear HB8 HRO HRW HCE HNC; go_wp2_with (first | (at_builtin; go_loud (refine append_at (f := fR) (n := 3) (fun _ => rfl) fR_one rfl (.tmp 39) (.tmp 41) 33 47 (.agg #[.int .i64 0, .int .i64 0, .string ByteArray.empty]) 32 rfl Try.underlying33 info_rq rfl (by decide) (.slice A3 i c3) out q rfl rfl HRO8.out.own (by rw [HOL.out]; omega) (by rw [HOL.out]; omega) ?_; intro v9 w9 hown hg hob; have HR9 := Sd.mk (ro_push HRO8.out hown hg hob); clear hown hg hob))); go_roundg (gk - 1); (case measure => omega); (case rel => exact ⟨j + 1, by omega, by go_num, ⟨by rw [HJN.out, HOU.out]; exact HR9.out⟩⟩))
            · (go_simp; have HYN := Sd.mk HY.out.o4; dsimp only [fR] at HYN; (clear hHeld; have hHeld := HCE.out _ HYN.out.bel; refine hK.out _ _ hHeld (fun hHeld => ?_); clear HY; (clear hK K; try simp only [List.getElem_toArray, List.getElem_cons_succ, List.getElem_cons_zero, Act.put, List.setIfInBounds_toArray, List.set_cons_zero, List.set_cons_succ])); generalize Wa.heap.size = k4 at HYN ⊢; generalize Wa.alloc _ = Wb at HYN hHeld ⊢; have HY := HYN; clear HYN)
              (refine wpAnyH_ready (rs := [2]) (by kernel_rfl) (by simp) ?_; refine AllReadyH.cons rfl (fun K hK => ?_) AllReadyH.nil)
              (refine step_appends_at (d := rqN) (f := fR) (n := 3) (fun _ _ _ => Iff.rfl) rfl (fun _ => rfl) fR_one rfl (.tmp 31) (.tmp 32) 33 47 (.agg #[.int .i64 0, .int .i64 0, .string ByteArray.empty]) 32 rfl Try.underlying33 info_rq rfl (by decide) _ [] out A3 i c3 HOL.out.symm rfl rfl (HRW.out _ HY.out.bel) HNC.out (HY.out.ov _ rfl).1 (by rw [HOL.out, List.length_nil]; omega) (by rw [HOL.out, List.length_nil]; omega) ?_; intro v1 Wc hown hg hob; rw [List.nil_append] at hown; have HYN := Sd.mk (HY.out.app hown hg hob); clear hown hg hob; (clear hHeld; have hHeld := HCE.out _ HYN.out.bel; refine hK.out _ _ hHeld (fun hHeld => ?_); clear HY; (clear hK K; try simp only [List.getElem_toArray, List.getElem_cons_succ, List.getElem_cons_zero, Act.put, List.setIfInBounds_toArray, List.set_cons_zero, List.set_cons_succ])); have HY := HYN; clear HYN)
              ((refine wpAnyH_ready (rs := [5]) (by kernel_rfl) (by simp) ?_; refine AllReadyH.cons rfl (fun K hK => ?_) AllReadyH.nil); refine step_appends_at (d := rqN) (f := fR) (n := 3) (fun _ _ _ => Iff.rfl) rfl (fun _ => rfl) fR_one rfl (.tmp 33) (.tmp 35) 33 47 (.agg #[.int .i64 0, .int .i64 0, .string ByteArray.empty]) 32 rfl Try.underlying33 info_rq rfl (by decide) _ out [q] _ 1 1 rfl rfl rfl (row_one (d := rqN) (f := fR) (fun _ _ => rfl) (HY.out.r4 _ rfl).1) (fun e => by cases e) (HY.out.ov _ rfl).1 (by rw [HOL.out, List.length_singleton]; omega) (by rw [HOL.out, List.length_singleton]; omega) ?_; intro v2 Wd hown hg hob; have HYN := Sd.mk (HY.out.app hown hg hob); clear hown hg hob; (clear hHeld; have hHeld := HCE.out _ HYN.out.bel; refine hK.out _ _ hHeld (fun hHeld => ?_); clear HY; (clear hK K; try simp only [List.getElem_toArray, List.getElem_cons_succ, List.getElem_cons_zero, Act.put, List.setIfInBounds_toArray, List.set_cons_zero, List.set_cons_succ])); have HY := HYN; clear HYN)
              (obtain ⟨A7, q7, he7, hs7⟩ := own_rq (HY.out.ov _ rfl).1; subst he7; have hle : (out ++ [q]).length = i + 1 := (by rw [List.length_append, HOL.out]; rfl); rw [hle]; have HTW := Sd.mk (twice_any Wd A7 q7 (out ++ [q]) hs7 (i + 1) hle.symm false (by constructor; (intro e; cases e); (intro e; exact absurd e HDP.out))); clear hs7 hle; (refine wpAnyH_ready (rs := [6]) (by kernel_rfl) (by simp) ?_; refine AllReadyH.cons rfl (fun K hK => ?_) AllReadyH.nil); go_simp; go_at_call 59; refine HTW.out.mono ?_; rintro e w8 ⟨rfl, hb8⟩; have HB8 := Sd.mk (below_then HY.out.bel hb8); clear hb8; clear hHeld; have hHeld := HCE.out _ HB8.out; refine hK.out _ _ hHeld (fun hHeld => ?_); clear HY HTW; (clear hK K; try simp only [List.getElem_toArray, List.getElem_cons_succ, List.getElem_cons_zero, Act.put, List.setIfInBounds_toArray, List.set_cons_zero, List.set_cons_succ]))
              ((refine wpAnyH_done (by kernel_rfl) ?_ _; simp only [Peel.Qn, List.drop_succ_cons, List.drop_zero]; clear hHeld); have HRO8 := Sd.mk (HRO.out.below HB8.out); obtain ⟨t0, t1, t2⟩ := HCE.out _ HB8.out; clear HB8 HRO HRW HCE HNC; go_wp2_with (first | (at_builtin; go_loud (refine append_at (f := fR) (n := 3) (fun _ => rfl) fR_one rfl (.tmp 39) (.tmp 41) 33 47 (.agg #[.int .i64 0, .int .i64 0, .string ByteArray.empty]) 32 rfl Try.underlying33 info_rq rfl (by decide) (.slice A3 i c3) out q rfl rfl HRO8.out.own (by rw [HOL.out]; omega) (by rw [HOL.out]; omega) ?_; intro v9 w9 hown hg hob; have HR9 := Sd.mk (ro_push HRO8.out hown hg hob); clear hown hg hob))); go_roundg (gk - 1); (case measure => omega); (case rel => exact ⟨j + 1, by omega, by go_num, ⟨by rw [HJN.out, HOU.out]; exact HR9.out⟩⟩))
          · (go_simp; have HYN := Sd.mk HY.out.o4; dsimp only [fR] at HYN; (clear hHeld; have hHeld := HCE.out _ HYN.out.bel; refine hK.out _ _ hHeld (fun hHeld => ?_); clear HY; (clear hK K; try simp only [List.getElem_toArray, List.getElem_cons_succ, List.getElem_cons_zero, Act.put, List.setIfInBounds_toArray, List.set_cons_zero, List.set_cons_succ])); generalize W5.heap.size = k4 at HYN ⊢; generalize W5.alloc _ = Wa at HYN hHeld ⊢; have HY := HYN; clear HYN)
            (refine wpAnyH_ready (rs := [0]) (by kernel_rfl) (by simp) ?_; refine AllReadyH.cons rfl (fun K hK => ?_) AllReadyH.nil)
            (go_simp; have HYN := Sd.mk HY.out.o0; (clear hHeld; have hHeld := HCE.out _ HYN.out.bel; refine hK.out _ _ hHeld (fun hHeld => ?_); clear HY; (clear hK K; try simp only [List.getElem_toArray, List.getElem_cons_succ, List.getElem_cons_zero, Act.put, List.setIfInBounds_toArray, List.set_cons_zero, List.set_cons_succ])); generalize Wa.heap.size = k0 at HYN ⊢; generalize Wa.alloc _ = Wb at HYN hHeld ⊢; have HY := HYN; clear HYN)
            (refine wpAnyH_ready (rs := [2]) (by kernel_rfl) (by simp) ?_; refine AllReadyH.cons rfl (fun K hK => ?_) AllReadyH.nil)
            (refine step_appends_at (d := rqN) (f := fR) (n := 3) (fun _ _ _ => Iff.rfl) rfl (fun _ => rfl) fR_one rfl (.tmp 31) (.tmp 32) 33 47 (.agg #[.int .i64 0, .int .i64 0, .string ByteArray.empty]) 32 rfl Try.underlying33 info_rq rfl (by decide) _ [] out A3 i c3 HOL.out.symm rfl rfl (HRW.out _ HY.out.bel) HNC.out (HY.out.ov _ rfl).1 (by rw [HOL.out, List.length_nil]; omega) (by rw [HOL.out, List.length_nil]; omega) ?_; intro v1 Wc hown hg hob; rw [List.nil_append] at hown; have HYN := Sd.mk (HY.out.app hown hg hob); clear hown hg hob; (clear hHeld; have hHeld := HCE.out _ HYN.out.bel; refine hK.out _ _ hHeld (fun hHeld => ?_); clear HY; (clear hK K; try simp only [List.getElem_toArray, List.getElem_cons_succ, List.getElem_cons_zero, Act.put, List.setIfInBounds_toArray, List.set_cons_zero, List.set_cons_succ])); have HY := HYN; clear HYN)
            ((refine wpAnyH_ready (rs := [5]) (by kernel_rfl) (by simp) ?_; refine AllReadyH.cons rfl (fun K hK => ?_) AllReadyH.nil); refine step_appends_at (d := rqN) (f := fR) (n := 3) (fun _ _ _ => Iff.rfl) rfl (fun _ => rfl) fR_one rfl (.tmp 33) (.tmp 35) 33 47 (.agg #[.int .i64 0, .int .i64 0, .string ByteArray.empty]) 32 rfl Try.underlying33 info_rq rfl (by decide) _ out [q] _ 1 1 rfl rfl rfl (row_one (d := rqN) (f := fR) (fun _ _ => rfl) (HY.out.r4 _ rfl).1) (fun e => by cases e) (HY.out.ov _ rfl).1 (by rw [HOL.out, List.length_singleton]; omega) (by rw [HOL.out, List.length_singleton]; omega) ?_; intro v2 Wd hown hg hob; have HYN := Sd.mk (HY.out.app hown hg hob); clear hown hg hob; (clear hHeld; have hHeld := HCE.out _ HYN.out.bel; refine hK.out _ _ hHeld (fun hHeld => ?_); clear HY; (clear hK K; try simp only [List.getElem_toArray, List.getElem_cons_succ, List.getElem_cons_zero, Act.put, List.setIfInBounds_toArray, List.set_cons_zero, List.set_cons_succ])); have HY := HYN; clear HYN)
            (obtain ⟨A7, q7, he7, hs7⟩ := own_rq (HY.out.ov _ rfl).1; subst he7; have hle : (out ++ [q]).length = i + 1 := (by rw [List.length_append, HOL.out]; rfl); rw [hle]; have HTW := Sd.mk (twice_any Wd A7 q7 (out ++ [q]) hs7 (i + 1) hle.symm false (by constructor; (intro e; cases e); (intro e; exact absurd e HDP.out))); clear hs7 hle; (refine wpAnyH_ready (rs := [6]) (by kernel_rfl) (by simp) ?_; refine AllReadyH.cons rfl (fun K hK => ?_) AllReadyH.nil); go_simp; go_at_call 59; refine HTW.out.mono ?_; rintro e w8 ⟨rfl, hb8⟩; have HB8 := Sd.mk (below_then HY.out.bel hb8); clear hb8; clear hHeld; have hHeld := HCE.out _ HB8.out; refine hK.out _ _ hHeld (fun hHeld => ?_); clear HY HTW; (clear hK K; try simp only [List.getElem_toArray, List.getElem_cons_succ, List.getElem_cons_zero, Act.put, List.setIfInBounds_toArray, List.set_cons_zero, List.set_cons_succ]))
            ((refine wpAnyH_done (by kernel_rfl) ?_ _; simp only [Peel.Qn, List.drop_succ_cons, List.drop_zero]; clear hHeld); have HRO8 := Sd.mk (HRO.out.below HB8.out); obtain ⟨t0, t1, t2⟩ := HCE.out _ HB8.out; clear HB8 HRO HRW HCE HNC; go_wp2_with (first | (at_builtin; go_loud (refine append_at (f := fR) (n := 3) (fun _ => rfl) fR_one rfl (.tmp 39) (.tmp 41) 33 47 (.agg #[.int .i64 0, .int .i64 0, .string ByteArray.empty]) 32 rfl Try.underlying33 info_rq rfl (by decide) (.slice A3 i c3) out q rfl rfl HRO8.out.own (by rw [HOL.out]; omega) (by rw [HOL.out]; omega) ?_; intro v9 w9 hown hg hob; have HR9 := Sd.mk (ro_push HRO8.out hown hg hob); clear hown hg hob))); go_roundg (gk - 1); (case measure => omega); (case rel => exact ⟨j + 1, by omega, by go_num, ⟨by rw [HJN.out, HOU.out]; exact HR9.out⟩⟩))
        · have hjj : decide (j < 1) = false := decide_eq_false (by omega)
          have hjj2 : decide ((j : Int) < 1) = false := decide_eq_false (by omega)
          have HSN := HSJ.out
          rw [HST.out.bat, show List.take j [q] = [q] from List.take_of_length_le (show 1 ≤ j by omega), ← HST.out.nxt] at HSN
          have HSO := Sd.mk HSN
          clear HSN HSJ
          go_wp2
          go_roundg (gko - 1)
          case measure => omega
          case rel => exact ⟨i + 1, by omega, by go_num, HSO⟩
    · have hii : decide (i < n) = false := decide_eq_false (by omega)
      have hii2 : decide ((i : Int) < (n : Int)) = false := decide_eq_false (by omega)
      have HE := HS.out
      rw [rqs_all l i (by rw [← HN.out]; omega)] at HE
      have HRO := Sd.mk HE
      clear HE HS
      go_wp2
      go_ret
      exact ⟨_, rfl, HRO.out⟩
-- L1>
end Go.Proofs.Ytnomgkmeomlccaa.Kee
