/- keep.Requests of a chain that is told: walked. -/
import Derived.Test.YtnomgkmeomlccaaKeF
import Derived.Test.YtnomgkmeomlccaaMetK
import Derived.Test.YtnomgkmeomlccaaKeG
set_option linter.unusedVariables false
set_option linter.unusedSimpArgs false

namespace Go.Proofs.Ytnomgkmeomlccaa.Kee
open Go.RowKit Go.Sort Rd Api Own Mv App Num Dig
open Blk (Block Rq rqN fR fR_one rq_at rkey Ro info_rq digB coreB step_appends_at step_lookup step_entry wpList_lookup_run wpList_entryStore_run grown_setBlock cell_setBlock)
open KMet (Mc keyV mc_step)
open Go.ChangeMaps (setBlock heap_setBlock_same heap_setBlock_other)

/-- the requests so far, and the keys that were met -/
structure Rs (w : World) (bm : Nat) (v : Value) (k : List Rq) (W : World) : Prop where
  ro : Ro w v k W
  mc : Mc bm (k.map rkey) W
  ge : w.heap.size ≤ bm
theorem Rs.below {w W W1 : World} {bm : Nat} {v : Value} {k : List Rq} (h : Rs w bm v k W) (hb : RowKit.Below W.heap.size W W1) : Rs w bm v k W1 := ⟨h.ro.below hb, h.mc.below hb, h.ge⟩
theorem own_mc {α : Type} {f : α → List Value} {n base : Nat} {e : TypeId} {v : Value} {xs : List α} {W : World} {b : Nat} {ks : List (Int × Int)} (h : OwnR f n W base e v xs) (k : Mc b ks W) : v.ownBlock ≠ some b := by
  obtain ⟨es, ck, hb, -⟩ := k.h
  rcases h.2 with ⟨rfl, _⟩ | ⟨q, cap, cur, rfl, _, hh, _⟩
  · simp [Value.ownBlock]
  · intro he
    simp only [Value.ownBlock, Option.some.injEq] at he
    subst he
    rw [hh] at hb
    simp at hb
/-- the map turned, and then the row -/
structure Rm (w : World) (bm : Nat) (v : Value) (k : List Rq) (p : Int × Int) (W : World) : Prop where
  ro : Ro w v k W
  mc : Mc bm (k.map rkey ++ [p]) W
  ge : w.heap.size ≤ bm
theorem Rs.mapped {w W W1 : World} {bm : Nat} {v : Value} {k : List Rq} {p : Int × Int} (h : Rs w bm v k W) (hg : W.grownBy W1 (some bm)) (hm : Mc bm (k.map rkey ++ [p]) W1) : Rm w bm v k p W1 :=
  ⟨⟨OwnR.grown h.ro.own hg (.inr (own_mc h.ro.own h.mc)), h.ro.new, below_grown h.ro.bel hg h.ro.bel.size (fun j e => (Option.some.inj e) ▸ h.ge)⟩, hm, h.ge⟩
theorem Rm.below {w W W1 : World} {bm : Nat} {v : Value} {k : List Rq} {p : Int × Int} (h : Rm w bm v k p W) (hb : RowKit.Below W.heap.size W W1) : Rm w bm v k p W1 := ⟨h.ro.below hb, h.mc.below hb, h.ge⟩
theorem Mc.grown {W W1 : World} {b : Nat} {ks : List (Int × Int)} {row : Option Nat} (h : Mc b ks W) (hg : W.grownBy W1 row) (hr : row ≠ some b) : Mc b ks W1 := by
  obtain ⟨es, ck, hb, hrest⟩ := h.h
  exact ⟨es, ck, blk_grown hb hg hr, hrest⟩
theorem Rm.push {w W W1 : World} {bm : Nat} {v v1 : Value} {k : List Rq} {x : Rq} (h : Rm w bm v k (rkey x) W) (ho : OwnR fR 3 W1 0 47 v1 (k ++ [x])) (hg : W.grownBy W1 v.ownBlock) (hn : v1.ownBlock = v.ownBlock ∨ v1.ownBlock = some (W.heap.size + 1)) : Rs w bm v1 (k ++ [x]) W1 := by
  refine ⟨⟨ho, fun j hj => ?_, below_grown h.ro.bel hg h.ro.bel.size h.ro.new⟩, ?_, h.ge⟩
  · rcases hn with e | e
    · exact h.ro.new j (e ▸ hj)
    · rw [hj] at e
      cases Option.some.inj e
      have := h.ro.bel.size
      omega
  · have := Mc.grown h.mc hg (own_mc h.ro.own h.mc)
    rwa [List.map_append]
-- <L1
set_option maxHeartbeats 16000000 in
set_option maxRecDepth 100000 in
theorem reqs_any (w0 w : World) (g b : Nat) (ub ud : Value) (rs : List Bk) (ds : List ByteArray) (l : List Tl) (h : Q w0 g b ub ud rs ds w) (n : Nat) (hn : n = l.length) (hl : rs.length = l.length) (hi : ∀ (j : Nat) (r : Bk) (x : Block), rs[j]? = some r → (chn l)[j]? = some x → Wk w0 r x) (hlen : n ≤ 40) :
    Calls Try.prog 17 #[.pointer (some ⟨g, 0, none⟩)] w fun e w' => ∃ v, e = .returned v ∧ Ro w v (rqs l) w' := by
  have mixed : Try.prog.follows .mixedOrders = true := by kernel_rfl
  have hmm := @run_makeMap Try.prog
  obtain ⟨Ab, cb, rfl, hsl⟩ := own_bk h.ob
  rw [hl, ← hn] at h
  have hc1 := hsl.le
  have hc2 := hsl.cap
  rw [hl, ← hn] at hc1
  have HR := Sd.mk hsl.row
  have HQ := Sd.mk h
  have HI := Sd.mk hi
  have HN := Sd.mk hn
  have HL := Sd.mk hl
  clear h hi hsl hn hl
  go_enter Try.func17, Try.ntmps17
  go_upto_region 2 with (fail)
  have b0 := below_one w (.map #[] 0)
  have G0 := Sd.mk (blk_keep HQ.out.hg b0)
  have HM := Sd.mk (show Rs w w.heap.size (.slice none 0 0) (rqs (l.take 0)) (w.alloc (.map #[] 0)) from ⟨⟨OwnR.nil _ _ _ _ _, fun k hk => (by simp [Value.ownBlock] at hk), b0⟩, ⟨#[], 0, blk_new w _, MapKept.stamped_empty 0, fun x hx => (by simp at hx), fun p hp => (by simp [rqs, chn] at hp)⟩, Nat.le_refl _⟩)
  clear b0
  generalize hbm : w.heap.size = bm at HM ⊢
  generalize w.alloc _ = W1 at HM G0 ⊢
  have c0 := blk_at G0.out 0 _ rfl
  go_wp2
  go_loopg [4, 6, 8, 9, 16] n (fun gk v4 v6 v8 v9 v16 wr => ∃ i, i + gk = n ∧ v16 = .int .i64 (i : Nat) ∧ Sd (Rs w bm v4 (rqs (l.take i)) wr))
  case atStart => exact ⟨0, by omega, rfl, HM⟩
  case round =>
    obtain ⟨i, hi, rfl, HS⟩ := hrel
    by_cases hlt : i < n
    · have hii : (i : Int) < n := by omega
      obtain ⟨p, hp⟩ : ∃ p, l[i]? = some p := ⟨l[i]'(by rw [← HN.out]; exact hlt), List.getElem?_eq_getElem _⟩
      obtain ⟨x, hst⟩ := stp hp
      obtain ⟨r, hr⟩ : ∃ r, rs[i]? = some r := ⟨rs[i]'(by rw [HL.out, ← HN.out]; exact hlt), List.getElem?_eq_getElem _⟩
      obtain ⟨q, hq⟩ : ∃ q, rqAt i p = q := ⟨_, rfl⟩
      rw [hq] at hst
      have HST := Sd.mk hst
      have HWK := Sd.mk (HI.out i r x hr hst.at_)
      obtain ⟨b1, o1, hA, p0, p1, p2, p3, p4, p5⟩ := wk_at HR.out hr HWK.out
      subst hA
      have HBL := Sd.mk HS.out.ro.bel
      have q0 := cell_below HBL.out p0
      have q1 := cell_below HBL.out p1
      have q2 := cell_below HBL.out p2
      have q3 := cell_below HBL.out p3
      have q4 := cell_below HBL.out p4
      have q5 := cell_below HBL.out p5
      obtain ⟨b2, o2, hA2, -, -, -⟩ := rq_at HWK.out.sl.row (i := 0) (x := q) (by rw [hst.bat]; rfl)
      have HA2 := Sd.mk hA2
      have HB1 := Sd.mk (show x.batch.length = 1 by rw [hst.bat]; rfl)
      clear p0 p1 p2 p3 p4 p5 hp hst hr hq hA2
      obtain ⟨gko, hgo⟩ : ∃ z, gk = z := ⟨_, rfl⟩
      go_upto_region 6 with (fail)
      have b6 := below_one wr (.cells #[.int .i64 x.view, .int .i64 x.prop, .int .i64 x.just.view, .string x.just.block, .slice r.sa r.sn r.sc, .slice r.a x.batch.length r.c] 42)
      have E6 := Sd.mk (blk_new wr (.cells #[.int .i64 x.view, .int .i64 x.prop, .int .i64 x.just.view, .string x.just.block, .slice r.sa r.sn r.sc, .slice r.a x.batch.length r.c] 42))
      have HS6 := Sd.mk (HS.out.below b6)
      clear b6 q0 q1 q2 q3 q4 q5 HS HBL
      generalize wr.heap.size = g6 at E6 ⊢
      generalize wr.alloc _ = W6 at E6 HS6 ⊢
      rw [HA2.out, HB1.out] at E6
      have d5 := blk_at E6.out 5 _ rfl
      go_wp2
      clear d5 E6
      go_loopg [4, 8, 9, 23] 1 (fun gk v4 v8 v9 v23 wr => ∃ j, j + gk = 1 ∧ v23 = .int .i64 (j : Nat) ∧ Sd (Rs w bm v4 (rqs (l.take i) ++ x.batch.take j) wr))
      case atStart => exact ⟨0, by omega, rfl, ⟨by simpa using HS6.out⟩⟩
      case round =>
        clear HS6
        obtain ⟨j, hj, rfl, HSJ⟩ := hrel
        by_cases hjt : j < 1
        · have hjj : (j : Int) < 1 := by omega
          have HJ0 := Sd.mk (show x.batch.take j = [] by rw [show j = 0 by omega]; rfl)
          have hbj : x.batch[j]? = some q := by rw [show j = 0 by omega, HST.out.bat]; rfl
          obtain ⟨b3, o3, hbb, p0, p1, p2⟩ := rq_at HWK.out.sl.row hbj
          rw [HA2.out] at hbb
          simp only [Option.some.injEq, Addr.mk.injEq] at hbb
          obtain ⟨rfl, rfl, -⟩ := hbb
          have HBL := Sd.mk (below_then HQ.out.bel HSJ.out.ro.bel)
          have q0 := cell_below HBL.out p0
          have q1 := cell_below HBL.out p1
          have q2 := cell_below HBL.out p2
          have HJN := Sd.mk (show x.batch.take (j + 1) = [q] by rw [show j = 0 by omega, HST.out.bat]; rfl)
          rw [HJ0.out, List.append_nil] at HSJ
          obtain ⟨out, hout⟩ : ∃ out, rqs (l.take i) = out := ⟨_, rfl⟩
          have HKN := Sd.mk HST.out.key
          have HOL := Sd.mk HST.out.len
          rw [hout] at HSJ HKN HOL
          have HOU := Sd.mk hout
          clear p0 p1 p2 hbj hout HBL
          go_upto_region 9 with (fail)
          have b8 := below_one wr (.cells #[.int .i64 q.c, .int .i64 q.s, .string q.b] 47)
          have E8 := Sd.mk (blk_new wr (.cells #[.int .i64 q.c, .int .i64 q.s, .string q.b] 47))
          have HS8 := Sd.mk (HSJ.out.below b8)
          clear b8 q0 q1 q2 HSJ
          generalize wr.heap.size = g8 at E8 ⊢
          generalize wr.alloc _ = W8 at E8 HS8 ⊢
          have d0 := blk_at E8.out 0 _ rfl
          have d1 := blk_at E8.out 1 _ rfl
          go_upto_region 10 with (fail)
          have b9 := below_one W8 (.cells #[.int .i64 q.c, .int .i64 q.s] 103)
          have E9 := Sd.mk (blk_new W8 (.cells #[.int .i64 q.c, .int .i64 q.s] 103))
          have E8b := Sd.mk (blk_keep E8.out b9)
          have HS9 := Sd.mk (HS8.out.below b9)
          clear b9 d0 d1 E8 HS8
          generalize W8.heap.size = g9 at E9 ⊢
          generalize W8.alloc _ = W9 at E8b E9 HS9 ⊢
          have e0 := blk_at E9.out 0 _ rfl
          have e1 := blk_at E9.out 1 _ rfl
          have hqi : IsI64 q.c ∧ IsI64 q.s := ⟨⟨by have := HST.out.c; omega, by have := HST.out.c; omega⟩, ⟨by have := HST.out.s; omega, by have := HST.out.s; omega⟩⟩
          have HQI := Sd.mk hqi
          obtain ⟨m, st, es1, ck1, n1, n2, l0, -, -⟩ := mc_step HS9.out.mc hqi.1 hqi.2
          have hm0 : m = 0 := n2.2 HKN.out
          subst hm0
          have L0 := Sd.mk l0
          clear l0 n1 n2 hqi
          go_upto_region 11 with (first
            | (at_lookup; refine wpList_lookup_run rfl (.tmp 32) (.tmp 33) 101 rfl _ L0.out ?_))
          have HS10 := Sd.mk (HS9.out.below (below_drew' (Below.refl _ _)))
          have E9c := Sd.mk (blk_keep E9.out (below_drew' (w := W9) (Below.refl W9.heap.size W9)))
          have E8c := Sd.mk (blk_keep E8b.out (below_drew' (w := W9) (Below.refl W9.heap.size W9)))
          clear L0 e0 e1 HS9 E9 E8b
          have S0 : W9.drew.cell? ⟨g9, 0, none⟩ = some (.int .i64 q.c) ∧ W9.drew.cell? ⟨g9, 1, none⟩ = some (.int .i64 q.s) := ⟨blk_at E9c.out 0 _ rfl, blk_at E9c.out 1 _ rfl⟩
          refine Peel.region_peel (n := 6) (S := fun W => W.cell? ⟨g9, 0, none⟩ = some (.int .i64 q.c) ∧ W.cell? ⟨g9, 1, none⟩ = some (.int .i64 q.s)) (by kernel_rfl) (by kernel_rfl) S0 (fun hHeld => ?_)
          simp only [List.take_succ_cons, List.take_zero]
          generalize W9.drew = W3 at HS10 E8c S0 hHeld ⊢
          obtain ⟨m, st, es1, ck1, n1, n2, l0, m0, hw⟩ := mc_step HS10.out.mc HQI.out.1 HQI.out.2
          have hm0 : m = 0 := n2.2 HKN.out
          subst hm0
          obtain ⟨es, ck, hb, -⟩ := HS10.out.mc.h
          have HW := Sd.mk hw
          have L0b := Sd.mk l0
          have M0 := Sd.mk m0
          have HB3 := Sd.mk hb
          clear hw l0 m0 hb E9c n1 n2
          (refine Peel.take 0 (v := ?_) rfl rfl (by kernel_rfl) (by kernel_rfl) (by kernel_rfl) (fun _ _ _ h => h) (by assumption) ?_ ?_; rotate_left; (focus (intro w hSw; (try dsimp only at hSw); obtain ⟨s0, s1⟩ := hSw; (try simp only [List.getElem_toArray, List.getElem_cons_succ, List.getElem_cons_zero]); go_simp; try (with_reducible rfl))); try simp only [List.getElem_toArray, List.getElem_cons_succ, List.getElem_cons_zero, Act.put, List.setIfInBounds_toArray, List.set_cons_zero, List.set_cons_succ])
          (refine Peel.take 1 (v := ?_) rfl rfl (by kernel_rfl) (by kernel_rfl) (by kernel_rfl) (fun _ _ _ h => h) (by assumption) ?_ ?_; rotate_left; (focus (intro w hSw; (try dsimp only at hSw); obtain ⟨s0, s1⟩ := hSw; (try simp only [List.getElem_toArray, List.getElem_cons_succ, List.getElem_cons_zero]); go_simp; try (with_reducible rfl))); try simp only [List.getElem_toArray, List.getElem_cons_succ, List.getElem_cons_zero, Act.put, List.setIfInBounds_toArray, List.set_cons_zero, List.set_cons_succ])
          have S1 : (setBlock W3 bm (.map es1 ck1)).cell? ⟨g9, 0, none⟩ = some (.int .i64 q.c) ∧ (setBlock W3 bm (.map es1 ck1)).cell? ⟨g9, 1, none⟩ = some (.int .i64 q.s) := ⟨cell_setBlock HB3.out es1 ck1 S0.1, cell_setBlock HB3.out es1 ck1 S0.2⟩
          have HG1 := Sd.mk (grown_setBlock HB3.out es1 ck1)
          obtain ⟨l2, es2, ck2, e2, hw3⟩ := HW.out _ (heap_setBlock_same HB3.out _)
          have L2 := Sd.mk l2
          have E2 := Sd.mk e2
          have HB4 := Sd.mk (show (setBlock W3 bm (.map es1 ck1)).heap[bm]? = some (.map es1 ck1) from heap_setBlock_same HB3.out _)
          have HG2 := Sd.mk (Rp.grown_then HG1.out (grown_setBlock HB4.out es2 ck2))
          obtain ⟨-, m3⟩ := hw3 _ (heap_setBlock_same HB4.out _)
          have M3 := Sd.mk m3
          have HE8c := Sd.mk (blk_grown E8c.out HG2.out (fun e => by have := Option.some.inj e; subst this; have h1 := E8c.out; rw [HB3.out] at h1; cases h1))
          clear l2 e2 hw3 m3
          refine wpAnyH_ready (rs := [2, 4]) (by kernel_rfl) (by simp) ?_
          refine AllReadyH.cons rfl (fun K hK => ?_) (AllReadyH.cons rfl (fun K hK => ?_) AllReadyH.nil)
          · refine step_lookup rfl (.tmp 36) (.tmp 37) 101 rfl _ L0b.out ?_
            (refine hK.out _ _ S0 (fun hHeld => ?_); (clear hK K; try simp only [List.getElem_toArray, List.getElem_cons_succ, List.getElem_cons_zero, Act.put, List.setIfInBounds_toArray, List.set_cons_zero, List.set_cons_succ]))
            (refine Peel.take 3 (v := ?_) rfl rfl (by kernel_rfl) (by kernel_rfl) (by kernel_rfl) (fun _ _ _ h => h) (by assumption) ?_ ?_; rotate_left; (focus (intro w hSw; (try dsimp only at hSw); obtain ⟨s0, s1⟩ := hSw; (try simp only [List.getElem_toArray, List.getElem_cons_succ, List.getElem_cons_zero]); go_simp; try (with_reducible rfl))); try simp only [List.getElem_toArray, List.getElem_cons_succ, List.getElem_cons_zero, Act.put, List.setIfInBounds_toArray, List.set_cons_zero, List.set_cons_succ])
            (refine wpAnyH_ready (rs := [4]) (by kernel_rfl) (by simp) ?_; refine AllReadyH.cons rfl (fun K hK => ?_) AllReadyH.nil)
            refine step_entry rfl (.tmp 36) (.tmp 37) 101 rfl _ M0.out ?_
            (refine hK.out _ _ S1 (fun hHeld => ?_); (clear hK K; try simp only [List.getElem_toArray, List.getElem_cons_succ, List.getElem_cons_zero, Act.put, List.setIfInBounds_toArray, List.set_cons_zero, List.set_cons_succ]))
            (refine Peel.take 5 (v := ?_) rfl rfl (by kernel_rfl) (by kernel_rfl) (by kernel_rfl) (fun _ _ _ h => h) (by assumption) ?_ ?_; rotate_left; (focus (intro w hSw; (try dsimp only at hSw); obtain ⟨s0, s1⟩ := hSw; (try simp only [List.getElem_toArray, List.getElem_cons_succ, List.getElem_cons_zero]); go_simp; try (with_reducible rfl))); try simp only [List.getElem_toArray, List.getElem_cons_succ, List.getElem_cons_zero, Act.put, List.setIfInBounds_toArray, List.set_cons_zero, List.set_cons_succ])
            (refine wpAnyH_done (by kernel_rfl) ?_ _; simp only [Peel.Qn, List.drop_succ_cons, List.drop_zero]; clear hHeld)
            refine wpList_entryStore_run rfl (.tmp 36) (.tmp 41) (.tmp 39) 101 rfl E2.out ?_
            (clear L0b M0 E2 L2 HB3 HB4 HG1 hHeld S1 HW; generalize setBlock (setBlock _ _ _) _ _ = W5 at M3 HG2 HE8c ⊢; have HRM := Sd.mk (HS10.out.mapped (p := rkey q) HG2.out M3.out); clear HS10 HG2 M3 E8c S0; obtain ⟨Av, cv, rfl⟩ := OwnR.slice HRM.out.ro.own; go_upto_region 12 with (fail); have d0 := blk_at HE8c.out 0 _ rfl; have d1 := blk_at HE8c.out 1 _ rfl; have d2 := blk_at HE8c.out 2 _ rfl; go_wp2_with (first | (at_builtin; go_loud (refine append_at (f := fR) (n := 3) (fun _ => rfl) fR_one rfl (.tmp 42) (.tmp 44) 33 47 (.agg #[.int .i64 0, .int .i64 0, .string ByteArray.empty]) 32 rfl Try.underlying33 info_rq rfl (by decide) (.slice Av out.length cv) out q rfl rfl HRM.out.ro.own (by rw [HOL.out]; omega) (by rw [HOL.out]; omega) ?_; intro v9 w9 hown hg hob; have HRS := Sd.mk (HRM.out.push hown hg hob); clear hown hg hob))); go_roundg (gk - 1); (case measure => omega); (case rel => exact ⟨j + 1, by omega, by go_num, ⟨by rw [HJN.out, HOU.out]; exact HRS.out⟩⟩))
          · refine step_entry rfl (.tmp 36) (.tmp 37) 101 rfl _ M0.out ?_
            (refine hK.out _ _ S1 (fun hHeld => ?_); (clear hK K; try simp only [List.getElem_toArray, List.getElem_cons_succ, List.getElem_cons_zero, Act.put, List.setIfInBounds_toArray, List.set_cons_zero, List.set_cons_succ]))
            (refine Peel.take 5 (v := ?_) rfl rfl (by kernel_rfl) (by kernel_rfl) (by kernel_rfl) (fun _ _ _ h => h) (by assumption) ?_ ?_; rotate_left; (focus (intro w hSw; (try dsimp only at hSw); obtain ⟨s0, s1⟩ := hSw; (try simp only [List.getElem_toArray, List.getElem_cons_succ, List.getElem_cons_zero]); go_simp; try (with_reducible rfl))); try simp only [List.getElem_toArray, List.getElem_cons_succ, List.getElem_cons_zero, Act.put, List.setIfInBounds_toArray, List.set_cons_zero, List.set_cons_succ])
            (refine wpAnyH_ready (rs := [2]) (by kernel_rfl) (by simp) ?_; refine AllReadyH.cons rfl (fun K hK => ?_) AllReadyH.nil)
            refine step_lookup rfl (.tmp 36) (.tmp 37) 101 rfl _ L2.out ?_
            (refine hK.out _ _ S1 (fun hHeld => ?_); (clear hK K; try simp only [List.getElem_toArray, List.getElem_cons_succ, List.getElem_cons_zero, Act.put, List.setIfInBounds_toArray, List.set_cons_zero, List.set_cons_succ]))
            (refine Peel.take 3 (v := ?_) rfl rfl (by kernel_rfl) (by kernel_rfl) (by kernel_rfl) (fun _ _ _ h => h) (by assumption) ?_ ?_; rotate_left; (focus (intro w hSw; (try dsimp only at hSw); obtain ⟨s0, s1⟩ := hSw; (try simp only [List.getElem_toArray, List.getElem_cons_succ, List.getElem_cons_zero]); go_simp; try (with_reducible rfl))); try simp only [List.getElem_toArray, List.getElem_cons_succ, List.getElem_cons_zero, Act.put, List.setIfInBounds_toArray, List.set_cons_zero, List.set_cons_succ])
            (refine wpAnyH_done (by kernel_rfl) ?_ _; simp only [Peel.Qn, List.drop_succ_cons, List.drop_zero]; clear hHeld)
            refine wpList_entryStore_run rfl (.tmp 36) (.tmp 41) (.tmp 39) 101 rfl E2.out ?_
            (clear L0b M0 E2 L2 HB3 HB4 HG1 hHeld S1 HW; generalize setBlock (setBlock _ _ _) _ _ = W5 at M3 HG2 HE8c ⊢; have HRM := Sd.mk (HS10.out.mapped (p := rkey q) HG2.out M3.out); clear HS10 HG2 M3 E8c S0; obtain ⟨Av, cv, rfl⟩ := OwnR.slice HRM.out.ro.own; go_upto_region 12 with (fail); have d0 := blk_at HE8c.out 0 _ rfl; have d1 := blk_at HE8c.out 1 _ rfl; have d2 := blk_at HE8c.out 2 _ rfl; go_wp2_with (first | (at_builtin; go_loud (refine append_at (f := fR) (n := 3) (fun _ => rfl) fR_one rfl (.tmp 42) (.tmp 44) 33 47 (.agg #[.int .i64 0, .int .i64 0, .string ByteArray.empty]) 32 rfl Try.underlying33 info_rq rfl (by decide) (.slice Av out.length cv) out q rfl rfl HRM.out.ro.own (by rw [HOL.out]; omega) (by rw [HOL.out]; omega) ?_; intro v9 w9 hown hg hob; have HRS := Sd.mk (HRM.out.push hown hg hob); clear hown hg hob))); go_roundg (gk - 1); (case measure => omega); (case rel => exact ⟨j + 1, by omega, by go_num, ⟨by rw [HJN.out, HOU.out]; exact HRS.out⟩⟩))
        · have hjj : decide (j < 1) = false := decide_eq_false (by omega)
          have hjj2 : decide ((j : Int) < 1) = false := decide_eq_false (by omega)
          have HSN := HSJ.out
          rw [HST.out.bat, show List.take j [q] = [q] from List.take_of_length_le (show 1 ≤ j by omega), ← HST.out.nxt] at HSN
          have HSO := Sd.mk HSN
          clear HSN HSJ
          go_wp2
          go_roundg (gko - 1)
          case measure => omega
          case rel => exact ⟨i + 1, by omega, by go_num, HSO⟩
    · have hii : decide (i < n) = false := decide_eq_false (by omega)
      have hii2 : decide ((i : Int) < (n : Int)) = false := decide_eq_false (by omega)
      have HE := HS.out.ro
      rw [rqs_all l i (by rw [← HN.out]; omega)] at HE
      have HRO := Sd.mk HE
      clear HE HS
      go_wp2
      go_ret
      exact ⟨_, rfl, HRO.out⟩
-- L1>
end Go.Proofs.Ytnomgkmeomlccaa.Kee
