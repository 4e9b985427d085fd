/- count.Leader; block.Make: walked. -/
import Derived.Test.YtnomgkmeomlccaaMkOi
import Derived.Test.YtnomgkmeomlccaaBlkW
set_option linter.unusedVariables false
set_option linter.unusedSimpArgs false

namespace Go.Proofs.Ytnomgkmeomlccaa.Blk
open Go.RowKit Go.Sort Rd Api Own Mv App Num Dig

/-- a view's leader -/
def lead (view : Int) (n : Nat) : Int := if view < 0 then 0 else view % (n : Int)
set_option maxHeartbeats 1000000 in
theorem leader_any (w : World) (view : Int) (hv : IsI64 view) (n : Nat) (n1 : 1 ≤ n) (n7 : n ≤ 7) (r : Int) (hr : lead view n = r) : Calls Try.prog 61 #[.int .i64 view, .int .i64 (n : Nat)] w fun e w' => e = .returned (.int .i64 r) ∧ w' = w := by
  have d1 : decide ((n : Int) < 1) = false := decide_eq_false (by omega)
  have d1b : decide (n < 1) = false := decide_eq_false (by omega)
  have hn0 : ((n : Int) == 0) = false := beq_eq_false_iff_ne.2 (by omega)
  have hn0b : ¬ (n : Int) = 0 := by omega
  have hn0c : ¬ n = 0 := by omega
  by_cases h0 : view < 0
  · have d0 : decide (view < 0) = true := decide_eq_true h0
    obtain rfl : r = 0 := by rw [← hr]; exact if_pos h0
    clear h0 hr
    go_enter Try.func61, Try.ntmps61
    go_wp2
    go_ret
    exact ⟨rfl, rfl⟩
  · have d0 : decide (view < 0) = false := decide_eq_false h0
    have p5 : view.tmod (n : Int) = r := by rw [Int.tmod_eq_emod_of_nonneg (by omega), ← hr]; exact (if_neg h0).symm
    clear h0 hr
    go_enter Try.func61, Try.ntmps61
    go_wp2
    go_ret
    exact ⟨rfl, rfl⟩
/-- a block that was made -/
def madeB (view : Int) (n : Nat) (x : Rp.Cert) (l : List Rq) : Block := ⟨view, lead view n, x, (firsts l).take 3⟩
theorem sl_take {W : World} {A : Option Addr} {c : Nat} {l : List Rq} (h : Sl rqN W A c l) (k : Nat) : Sl rqN W A c (l.take k) :=
  ⟨by rw [List.length_take]; have := h.le; omega, h.cap, fun i x hx => by
    rw [List.getElem?_take] at hx
    split at hx
    · exact h.row i x hx
    · cases hx⟩
set_option maxHeartbeats 8000000 in
set_option maxRecDepth 100000 in
theorem make_any (w : World) (view : Int) (hv : IsI64 view) (n : Nat) (n1 : 1 ≤ n) (n7 : n ≤ 7) (x : Rp.Cert) (A1 : Option Addr) (m1 c1 : Nat) (A : Option Addr) (c : Nat) (l : List Rq) (h : Sl rqN w A c l) (hnil : A = none → c = 0) (hlen : l.length ≤ 1000) (hI : ∀ x ∈ l, IsI64 x.c ∧ IsI64 x.s) (m : Nat) (hm : m = l.length) (kk : Nat) (hkk : ((firsts l).take 3).length = kk) (r : Int) (hr : lead view n = r) :
    Calls Try.prog 21 #[.int .i64 view, .int .i64 (n : Nat), .agg #[.int .i64 x.view, .string x.block, .slice A1 m1 c1], .slice A m c] w fun e w' => ∃ B d, e = .returned (.agg #[.int .i64 view, .int .i64 r, .int .i64 x.view, .string x.block, .slice A1 m1 c1, .slice B kk d]) ∧ Sl rqN w' B d ((firsts l).take 3) ∧ RowKit.Below w.heap.size w w' := by
  have mixed : Try.prog.follows .mixedOrders = true := by kernel_rfl
  have b0 := below_one w (.cells #[.int .i64 x.view, .string x.block, .slice A1 m1 c1] 39)
  have b1 := below_one (w.alloc (.cells #[.int .i64 x.view, .string x.block, .slice A1 m1 c1] 39)) (.cells #[.int .i64 0, .int .i64 0, .int .i64 0, .string { data := #[] }, .slice none 0 0, .slice none 0 0] 42)
  have HB := Sd.mk (below_then b0 b1)
  have X0 := Sd.mk (blk_keep (blk_new w (.cells #[.int .i64 x.view, .string x.block, .slice A1 m1 c1] 39)) b1)
  have Y0 := Sd.mk (show ((w.alloc (.cells #[.int .i64 x.view, .string x.block, .slice A1 m1 c1] 39)).alloc (.cells #[.int .i64 0, .int .i64 0, .int .i64 0, .string { data := #[] }, .slice none 0 0, .slice none 0 0] 42)).heap[w.heap.size + 1]? = some (.cells #[.int .i64 0, .int .i64 0, .int .i64 0, .string { data := #[] }, .slice none 0 0, .slice none 0 0] 42 (0, 0)) from blk_new1 _ _ _)
  have HO := Sd.mk (once_any _ A c l (h.below (below_then b0 b1)) hnil hlen hI m hm)
  have HLD := Sd.mk (fun W => leader_any W view hv n n1 n7 r hr)
  have HKK := Sd.mk hkk
  clear h b0 b1 hnil hlen hI hm hr hkk hv
  go_enter Try.func21, Try.ntmps21
  go_upto_region 1 with (fail)
  generalize hk1 : w.heap.size + 1 = Br at Y0 ⊢
  generalize hk0 : w.heap.size = Bc at X0 ⊢
  generalize (w.alloc _).alloc _ = W1 at X0 Y0 HB HO ⊢
  go_upto_region 2 with (first
    | (go_at_call 60; (with_reducible refine HO.out.mono ?_); rintro e w2 ⟨v, rfl, ho⟩; have HRO := Sd.mk ho; clear ho))
  obtain ⟨B, d, rfl, hsl⟩ := own_rq HRO.out.own
  obtain ⟨q, hq⟩ : ∃ q, (firsts l).length = q := ⟨_, rfl⟩
  have HSL := Sd.mk hsl
  have hqd := hsl.le
  have hdc := hsl.cap
  rw [hq] at hqd
  have hkq : min q 3 = kk := by have := HKK.out; rw [List.length_take, hq] at this; omega
  rw [hq] at HRO ⊢
  have hmin : min (q : Int) 3 = (kk : Int) := by omega
  have hkd : kk ≤ d := by omega
  have hkdi : (kk : Int) ≤ d := by omega
  have d1 := below_drew' (w := w2) (Below.refl w2.heap.size w2)
  have X1 := Sd.mk (blk_keep (blk_keep X0.out HRO.out.bel) d1)
  have Y1 := Sd.mk (blk_keep (blk_keep Y0.out HRO.out.bel) d1)
  have HRO1 := Sd.mk (HRO.out.below d1)
  have HS1 := Sd.mk (HSL.out.below d1)
  clear hq hsl d1 hkq X0 Y0 HO HSL HRO
  have S0 : w2.drew.cell? ⟨Bc, 0, none⟩ = some (.int .i64 x.view) ∧ w2.drew.cell? ⟨Bc, 1, none⟩ = some (.string x.block) ∧ w2.drew.cell? ⟨Bc, 2, none⟩ = some (.slice A1 m1 c1) := ⟨blk_at X1.out 0 _ rfl, blk_at X1.out 1 _ rfl, blk_at X1.out 2 _ rfl⟩
  refine Peel.region_peel (n := 11) (S := fun W => W.cell? ⟨Bc, 0, none⟩ = some (.int .i64 x.view) ∧ W.cell? ⟨Bc, 1, none⟩ = some (.string x.block) ∧ W.cell? ⟨Bc, 2, none⟩ = some (.slice A1 m1 c1)) (by kernel_rfl) (by kernel_rfl) S0 (fun hHeld => ?_)
  simp only [List.take_succ_cons, List.take_zero]
  generalize w2.drew = W3 at X1 Y1 HRO1 HS1 S0 hHeld ⊢
  (refine Peel.take 0 (v := ?_) rfl rfl (by kernel_rfl) (by kernel_rfl) (by kernel_rfl) (fun _ _ _ h => h) (by assumption) ?_ ?_; rotate_left; (focus (intro w hSw; obtain ⟨s0, s1, s2⟩ := hSw; (try dsimp only at s0 s1 s2); (try simp only [List.getElem_toArray, List.getElem_cons_succ, List.getElem_cons_zero]); go_simp; try (with_reducible rfl))); try simp only [List.getElem_toArray, List.getElem_cons_succ, List.getElem_cons_zero, Act.put, List.setIfInBounds_toArray, List.set_cons_zero, List.set_cons_succ])
  (refine Peel.take 1 (v := ?_) rfl rfl (by kernel_rfl) (by kernel_rfl) (by kernel_rfl) (fun _ _ _ h => h) (by assumption) ?_ ?_; rotate_left; (focus (intro w hSw; obtain ⟨s0, s1, s2⟩ := hSw; (try dsimp only at s0 s1 s2); (try simp only [List.getElem_toArray, List.getElem_cons_succ, List.getElem_cons_zero]); go_simp; try (with_reducible rfl))); try simp only [List.getElem_toArray, List.getElem_cons_succ, List.getElem_cons_zero, Act.put, List.setIfInBounds_toArray, List.set_cons_zero, List.set_cons_succ])
  (refine Peel.take 2 (v := ?_) rfl rfl (by kernel_rfl) (by kernel_rfl) (by kernel_rfl) (fun _ _ _ h => h) (by assumption) ?_ ?_; rotate_left; (focus (intro w hSw; obtain ⟨s0, s1, s2⟩ := hSw; (try dsimp only at s0 s1 s2); (try simp only [List.getElem_toArray, List.getElem_cons_succ, List.getElem_cons_zero]); go_simp; try (with_reducible rfl))); try simp only [List.getElem_toArray, List.getElem_cons_succ, List.getElem_cons_zero, Act.put, List.setIfInBounds_toArray, List.set_cons_zero, List.set_cons_succ])
  (refine Peel.take 4 (v := ?_) rfl rfl (by kernel_rfl) (by kernel_rfl) (by kernel_rfl) (fun _ _ _ h => h) (by assumption) ?_ ?_; rotate_left; (focus (intro w hSw; obtain ⟨s0, s1, s2⟩ := hSw; (try dsimp only at s0 s1 s2); (try simp only [List.getElem_toArray, List.getElem_cons_succ, List.getElem_cons_zero]); go_simp; try (with_reducible rfl))); try simp only [List.getElem_toArray, List.getElem_cons_succ, List.getElem_cons_zero, Act.put, List.setIfInBounds_toArray, List.set_cons_zero, List.set_cons_succ])
  (refine Peel.take 5 (v := ?_) rfl rfl (by kernel_rfl) (by kernel_rfl) (by kernel_rfl) (fun _ _ _ h => h) (by assumption) ?_ ?_; rotate_left; (focus (intro w hSw; obtain ⟨s0, s1, s2⟩ := hSw; (try dsimp only at s0 s1 s2); (try simp only [List.getElem_toArray, List.getElem_cons_succ, List.getElem_cons_zero]); go_simp; try (with_reducible rfl))); try simp only [List.getElem_toArray, List.getElem_cons_succ, List.getElem_cons_zero, Act.put, List.setIfInBounds_toArray, List.set_cons_zero, List.set_cons_succ])
  (refine Peel.take 6 (v := ?_) rfl rfl (by kernel_rfl) (by kernel_rfl) (by kernel_rfl) (fun _ _ _ h => h) (by assumption) ?_ ?_; rotate_left; (focus (intro w hSw; obtain ⟨s0, s1, s2⟩ := hSw; (try dsimp only at s0 s1 s2); (try simp only [List.getElem_toArray, List.getElem_cons_succ, List.getElem_cons_zero]); go_simp; try (with_reducible rfl))); try simp only [List.getElem_toArray, List.getElem_cons_succ, List.getElem_cons_zero, Act.put, List.setIfInBounds_toArray, List.set_cons_zero, List.set_cons_succ])
  (refine Peel.take 7 (v := ?_) rfl rfl (by kernel_rfl) (by kernel_rfl) (by kernel_rfl) (fun _ _ _ h => h) (by assumption) ?_ ?_; rotate_left; (focus (intro w hSw; obtain ⟨s0, s1, s2⟩ := hSw; (try dsimp only at s0 s1 s2); (try simp only [List.getElem_toArray, List.getElem_cons_succ, List.getElem_cons_zero]); go_simp; try (with_reducible rfl))); try simp only [List.getElem_toArray, List.getElem_cons_succ, List.getElem_cons_zero, Act.put, List.setIfInBounds_toArray, List.set_cons_zero, List.set_cons_succ])
  (refine Peel.take 8 (v := ?_) rfl rfl (by kernel_rfl) (by kernel_rfl) (by kernel_rfl) (fun _ _ _ h => h) (by assumption) ?_ ?_; rotate_left; (focus (intro w hSw; obtain ⟨s0, s1, s2⟩ := hSw; (try dsimp only at s0 s1 s2); (try simp only [List.getElem_toArray, List.getElem_cons_succ, List.getElem_cons_zero]); go_simp; try (with_reducible rfl))); try simp only [List.getElem_toArray, List.getElem_cons_succ, List.getElem_cons_zero, Act.put, List.setIfInBounds_toArray, List.set_cons_zero, List.set_cons_succ])
  (refine Peel.take 9 (v := ?_) rfl rfl (by kernel_rfl) (by kernel_rfl) (by kernel_rfl) (fun _ _ _ h => h) (by assumption) ?_ ?_; rotate_left; (focus (intro w hSw; obtain ⟨s0, s1, s2⟩ := hSw; (try dsimp only at s0 s1 s2); (try simp only [List.getElem_toArray, List.getElem_cons_succ, List.getElem_cons_zero]); go_simp; try (with_reducible rfl))); try simp only [List.getElem_toArray, List.getElem_cons_succ, List.getElem_cons_zero, Act.put, List.setIfInBounds_toArray, List.set_cons_zero, List.set_cons_succ])
  (refine wpAnyH_ready (rs := [3]) (by kernel_rfl) (by simp) ?_; refine AllReadyH.cons rfl (fun K hK => ?_) AllReadyH.nil)
  go_simp
  go_at_call 61
  refine (HLD.out _).mono ?_
  rintro e w4 ⟨rfl, rfl⟩
  (refine hK.out _ _ S0 (fun hHeld => ?_); (clear hK K; try simp only [List.getElem_toArray, List.getElem_cons_succ, List.getElem_cons_zero, Act.put, List.setIfInBounds_toArray, List.set_cons_zero, List.set_cons_succ]))
  (refine Peel.take 10 (v := ?_) rfl rfl (by kernel_rfl) (by kernel_rfl) (by kernel_rfl) (fun _ _ _ h => h) (by assumption) ?_ ?_; rotate_left; (focus (intro w hSw; obtain ⟨s0, s1, s2⟩ := hSw; (try dsimp only at s0 s1 s2); (try simp only [List.getElem_toArray, List.getElem_cons_succ, List.getElem_cons_zero]); go_simp; try (with_reducible rfl))); try simp only [List.getElem_toArray, List.getElem_cons_succ, List.getElem_cons_zero, Act.put, List.setIfInBounds_toArray, List.set_cons_zero, List.set_cons_succ])
  (refine wpAnyH_done (by kernel_rfl) ?_ _; simp only [Peel.Qn, List.drop_succ_cons, List.drop_zero]; clear hHeld)
  have HGE := Sd.mk (show w.heap.size ≤ Br by omega)
  have HNE := Sd.mk (show ∀ j, (Value.slice B q d).ownBlock = some j → j ≠ Br from fun j hj e => by subst e; exact OwnR.blk HRO1.out.own Y1.out (by decide) hj)
  have f0 := blk_frz Y1.out 0
  have f1 := blk_frz Y1.out 1
  have f2 := blk_frz Y1.out 2
  have f3 := blk_frz Y1.out 3
  have f4 := blk_frz Y1.out 4
  have f5 := blk_frz Y1.out 5
  have r0 := blk_at Y1.out 0 _ rfl
  have r1 := blk_at Y1.out 1 _ rfl
  have r2 := blk_at Y1.out 2 _ rfl
  have r3 := blk_at Y1.out 3 _ rfl
  have r4 := blk_at Y1.out 4 _ rfl
  have r5 := blk_at Y1.out 5 _ rfl
  clear hHeld S0
  go_wp2
  obtain ⟨y0, y1, y2, y3, y4, y5⟩ := fin6_cells Y1.out (.int .i64 view) (.int .i64 r) (.int .i64 x.view) (.string x.block) (.slice A1 m1 c1) (.slice B kk d)
  have hgr := fin6_grown Br w4 (.int .i64 view) (.int .i64 r) (.int .i64 x.view) (.string x.block) (.slice A1 m1 c1) (.slice B kk d)
  have HBW := Sd.mk (below_then HB.out HRO1.out.bel)
  have HF := Sd.mk (below_grown HBW.out hgr HBW.out.size (fun k e => by obtain rfl := Option.some.inj e; exact HGE.out))
  have HSF := Sd.mk (show Sl rqN (fin6 Br w4 (.int .i64 view) (.int .i64 r) (.int .i64 x.view) (.string x.block) (.slice A1 m1 c1) (.slice B kk d)) B d ((firsts l).take 3) from by
    obtain ⟨B', d', hv, hs2⟩ := own_rq (OwnR.grown HRO1.out.own hgr (by
      cases e : (Value.slice B q d).ownBlock with
      | none => exact .inl rfl
      | some k => exact .inr (fun e2 => HNE.out k e (Option.some.inj e2))))
    simp only [Value.slice.injEq] at hv
    obtain ⟨rfl, -, rfl⟩ := hv
    exact sl_take hs2 3)
  clear f0 f1 f2 f3 f4 f5 r0 r1 r2 r3 r4 r5 hgr
  change bodyPost _ _ _ _ _ (fin6 Br w4 (.int .i64 view) (.int .i64 r) (.int .i64 x.view) (.string x.block) (.slice A1 m1 c1) (.slice B kk d))
  generalize fin6 Br w4 _ _ _ _ _ _ = W9 at y0 y1 y2 y3 y4 y5 HF HSF ⊢
  exact bodyPost_ret (v := .agg #[.int .i64 view, .int .i64 r, .int .i64 x.view, .string x.block, .slice A1 m1 c1, .slice B kk d]) (by simp [results, Try.results21, go_sem, y0, y1, y2, y3, y4, y5]) rfl ⟨B, d, rfl, HSF.out, HF.out⟩
end Go.Proofs.Ytnomgkmeomlccaa.Blk
