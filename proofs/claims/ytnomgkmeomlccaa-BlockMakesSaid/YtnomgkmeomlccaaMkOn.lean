/- block.once: its closure: walked. -/
import Derived.Test.YtnomgkmeomlccaaMet
import Derived.Test.YtnomgkmeomlccaaPeel
set_option linter.unusedVariables false
set_option linter.unusedSimpArgs false

namespace Go.Proofs.Ytnomgkmeomlccaa.Blk
open Go.RowKit Go.Sort Rd Api Own Mv App Num Dig Go.WideMaps
open Go.Maps (Keyed)
open Go.ChangeMaps (setBlock heap_setBlock_same heap_setBlock_other)

section
variable {P : Program} {ops : Array Oper} {o : Oper} {a : Act} {W W1 : World} {Q : Exit → Act → World → Prop} {E : Prop} {K : Act → World → Prop} {rest : List Oper}
theorem step_lookup (hgd : o.guard = none) (m x : Operand) (t : TypeId) (hop : o.op = Op.lookup t m x false) (v : Value) (hr : (Instr.lookup t (a.eval m) (a.eval x) false).run P W = .ok v W) (h : K (a.put o.dst v) W) :
    if Region.wanted o (yielded ops a.tmps) = true then Oper.wp P o a W K Q else E := by
  rw [if_pos (by simp [Region.wanted, hgd])]
  unfold Oper.wp
  simp [execOp, hop, hr, Result.andThen]
  exact h
theorem step_entry (hgd : o.guard = none) (m x : Operand) (t : TypeId) (hop : o.op = Op.mapEntry t m x) (v : Value) (hr : (Instr.mapEntry t (a.eval m) (a.eval x)).run P W = .ok v W1) (h : K (a.put o.dst v) W1) :
    if Region.wanted o (yielded ops a.tmps) = true then Oper.wp P o a W K Q else E := by
  rw [if_pos (by simp [Region.wanted, hgd])]
  unfold Oper.wp
  simp [execOp, hop, hr, Result.andThen]
  exact h
theorem wpList_lookup_run (hgd : o.guard = none) (m x : Operand) (t : TypeId) (hop : o.op = Op.lookup t m x false) (v : Value) (hr : (Instr.lookup t (a.eval m) (a.eval x) false).run P W = .ok v W) (h : wpList P ops Q rest (a.put o.dst v) W) : wpList P ops Q (o :: rest) a W :=
  wpList_plain hgd fun K hK => by
    unfold Oper.wp
    simp [execOp, hop, hr, Result.andThen]
    exact hK _ _ h
theorem wpList_entryStore_run (hgd : o.guard = none) (m s x : Operand) (t : TypeId) (hop : o.op = Op.entryStore t m s x) (hr : (Instr.entryStore t (a.eval m) (a.eval s) (a.eval x)).run P W = .ok () W1) (h : wpList P ops Q rest (a.put o.dst undef) W1) : wpList P ops Q (o :: rest) a W :=
  wpList_plain hgd fun K hK => by
    unfold Oper.wp
    simp [execOp, hop, hr, Result.andThen]
    exact hK _ _ h
end
theorem grown_setBlock {W : World} {b : Nat} {es : Array MapEntry} {ck : Nat} (hb : W.heap[b]? = some (.map es ck)) (es2 : Array MapEntry) (ck2 : Nat) : W.grownBy (setBlock W b (.map es2 ck2)) (some b) :=
  ⟨rfl, rfl, rfl, by simp [setBlock], fun i _ hi => heap_setBlock_other hb _ (fun e => hi (by rw [e]))⟩
theorem cell_setBlock {W : World} {b k j : Nat} {es : Array MapEntry} {ck : Nat} (hb : W.heap[b]? = some (.map es ck)) (es2 : Array MapEntry) (ck2 : Nat) {v : Value} (h : W.cell? ⟨k, j, none⟩ = some v) : (setBlock W b (.map es2 ck2)).cell? ⟨k, j, none⟩ = some v := by
  have hne : k ≠ b := by
    intro e
    subst e
    unfold World.cell? at h
    rw [hb] at h
    cases h
  unfold World.cell? at h ⊢
  rw [heap_setBlock_other hb _ hne]
  exact h
/-- the closure's state: the map, and the variable that has it -/
structure Ms (b Bv : Nat) (ks : List (Int × Int)) (W : World) : Prop where
  mc : Mc b ks W
  cell : W.heap[Bv]? = some (.cells #[.map (some b)] 137 (0, 0))
theorem Ms.below {b Bv : Nat} {ks : List (Int × Int)} {W W1 : World} (h : Ms b Bv ks W) (hb : RowKit.Below W.heap.size W W1) : Ms b Bv ks W1 := ⟨h.mc.below hb, blk_keep h.cell hb⟩
set_option maxHeartbeats 8000000 in
set_option maxRecDepth 100000 in
theorem once1_any {b Bv : Nat} {ks : List (Int × Int)} {W : World} (h : Ms b Bv ks W) (x : Rq) (hc : IsI64 x.c) (hs : IsI64 x.s) (hl : ks.length ≤ 1000) (r : Bool) (hr : decide ((x.c, x.s) ∈ ks) = r) :
    Calls Try.prog 93 #[.agg #[.int .i64 x.c, .int .i64 x.s, .string x.b], .pointer (some ⟨Bv, 0, none⟩)] W fun e w' => e = .returned (.bool r) ∧ Ms b Bv (ks ++ [(x.c, x.s)]) w' ∧ W.grownBy w' (some b) := by
  have mixed : Try.prog.follows .mixedOrders = true := by kernel_rfl
  have hb0 := below_one W (.cells #[.int .i64 x.c, .int .i64 x.s, .string x.b] 47)
  have X0 := Sd.mk (blk_new W (.cells #[.int .i64 x.c, .int .i64 x.s, .string x.b] 47))
  have HM := Sd.mk (h.below hb0)
  have HB := Sd.mk hb0
  have HR := Sd.mk hr
  have HI := Sd.mk (And.intro hc hs)
  clear h hb0 hr hc hs
  go_enter Try.func93, Try.ntmps93
  go_upto_region 1 with (fail)
  generalize W.heap.size = Bq at X0 ⊢
  generalize W.alloc _ = W1 at X0 HM HB ⊢
  have c0 := blk_at X0.out 0 _ rfl
  have c1 := blk_at X0.out 1 _ rfl
  go_upto_region 2 with (fail)
  have b1 := below_one W1 (.cells #[.int .i64 x.c, .int .i64 x.s] 140)
  have X1 := Sd.mk (blk_new W1 (.cells #[.int .i64 x.c, .int .i64 x.s] 140))
  have HM1 := Sd.mk (HM.out.below b1)
  have HB1 := Sd.mk (below_then HB.out b1)
  clear b1 c0 c1 X0 HM HB
  generalize W1.heap.size = Bk at X1 ⊢
  generalize W1.alloc _ = W2 at X1 HM1 HB1 ⊢
  have d1 := below_drew' (w := W2) (Below.refl W2.heap.size W2)
  have HM2 := Sd.mk (HM1.out.below d1)
  have X2 := Sd.mk (blk_keep X1.out d1)
  have HB2 := Sd.mk (below_then HB1.out d1)
  clear d1 HM1 X1 HB1
  have S0 : W2.drew.cell? ⟨Bv, 0, none⟩ = some (.map (some b)) ∧ W2.drew.cell? ⟨Bk, 0, none⟩ = some (.int .i64 x.c) ∧ W2.drew.cell? ⟨Bk, 1, none⟩ = some (.int .i64 x.s) := ⟨blk_at HM2.out.cell 0 _ rfl, blk_at X2.out 0 _ rfl, blk_at X2.out 1 _ rfl⟩
  refine Peel.region_peel (n := 6) (S := fun W9 => W9.cell? ⟨Bv, 0, none⟩ = some (.map (some b)) ∧ W9.cell? ⟨Bk, 0, none⟩ = some (.int .i64 x.c) ∧ W9.cell? ⟨Bk, 1, none⟩ = some (.int .i64 x.s)) (by kernel_rfl) (by kernel_rfl) S0 (fun hHeld => ?_)
  simp only [List.take_succ_cons, List.take_zero]
  generalize W2.drew = W3 at HM2 X2 HB2 S0 hHeld ⊢
  obtain ⟨n, st, es1, ck1, n1, n2, l0, m0, hw⟩ := mc_step HM2.out.mc HI.out.1 HI.out.2
  obtain ⟨es, ck, hb, -⟩ := HM2.out.mc.h
  have HW := Sd.mk hw
  have L0 := Sd.mk l0
  have M0 := Sd.mk m0
  have HB3 := Sd.mk hb
  clear hw l0 m0 hb
  (refine Peel.take 0 (v := ?_) rfl rfl (by kernel_rfl) (by kernel_rfl) (by kernel_rfl) (fun _ _ _ h => h) (by assumption) ?_ ?_; rotate_left; (focus (intro w hSw; obtain ⟨s0, s1, s2⟩ := hSw; (try dsimp only at s0 s1 s2); (try simp only [List.getElem_toArray, List.getElem_cons_succ, List.getElem_cons_zero]); go_simp; try (with_reducible rfl))); try simp only [List.getElem_toArray, List.getElem_cons_succ, List.getElem_cons_zero, Act.put, List.setIfInBounds_toArray, List.set_cons_zero, List.set_cons_succ])
  (refine Peel.take 1 (v := ?_) rfl rfl (by kernel_rfl) (by kernel_rfl) (by kernel_rfl) (fun _ _ _ h => h) (by assumption) ?_ ?_; rotate_left; (focus (intro w hSw; obtain ⟨s0, s1, s2⟩ := hSw; (try dsimp only at s0 s1 s2); (try simp only [List.getElem_toArray, List.getElem_cons_succ, List.getElem_cons_zero]); go_simp; try (with_reducible rfl))); try simp only [List.getElem_toArray, List.getElem_cons_succ, List.getElem_cons_zero, Act.put, List.setIfInBounds_toArray, List.set_cons_zero, List.set_cons_succ])
  have hn1000 : n ≤ 1000 := by omega
  have hnw : ¬ (9223372036854775807 : Int) < (n : Int) + 1 := by omega
  have S1 : (setBlock W3 b (.map es1 ck1)).cell? ⟨Bv, 0, none⟩ = some (.map (some b)) ∧ (setBlock W3 b (.map es1 ck1)).cell? ⟨Bk, 0, none⟩ = some (.int .i64 x.c) ∧ (setBlock W3 b (.map es1 ck1)).cell? ⟨Bk, 1, none⟩ = some (.int .i64 x.s) := ⟨cell_setBlock HB3.out es1 ck1 S0.1, cell_setBlock HB3.out es1 ck1 S0.2.1, cell_setBlock HB3.out es1 ck1 S0.2.2⟩
  have HG1 := Sd.mk (grown_setBlock HB3.out es1 ck1)
  obtain ⟨l2, es2, ck2, e2, hw3⟩ := HW.out _ (heap_setBlock_same HB3.out _)
  have L2 := Sd.mk l2
  have E2 := Sd.mk e2
  have HB4 := Sd.mk (show (setBlock W3 b (.map es1 ck1)).heap[b]? = some (.map es1 ck1) from heap_setBlock_same HB3.out _)
  have HG2 := Sd.mk (Rp.grown_then HG1.out (grown_setBlock HB4.out es2 ck2))
  obtain ⟨l3, m3⟩ := hw3 _ (heap_setBlock_same HB4.out _)
  have L3 := Sd.mk l3
  have M3 := Sd.mk m3
  have S2 : (setBlock (setBlock W3 b (.map es1 ck1)) b (.map es2 ck2)).cell? ⟨Bv, 0, none⟩ = some (.map (some b)) ∧ (setBlock (setBlock W3 b (.map es1 ck1)) b (.map es2 ck2)).cell? ⟨Bk, 0, none⟩ = some (.int .i64 x.c) ∧ (setBlock (setBlock W3 b (.map es1 ck1)) b (.map es2 ck2)).cell? ⟨Bk, 1, none⟩ = some (.int .i64 x.s) := ⟨cell_setBlock HB4.out es2 ck2 S1.1, cell_setBlock HB4.out es2 ck2 S1.2.1, cell_setBlock HB4.out es2 ck2 S1.2.2⟩
  have HC2 := Sd.mk (show (setBlock (setBlock W3 b (.map es1 ck1)) b (.map es2 ck2)).heap[Bv]? = some (.cells #[.map (some b)] 137 (0, 0)) from blk_grown HM2.out.cell HG2.out (fun e => by have := Option.some.inj e; subst this; have h1 := HM2.out.cell; rw [HB3.out] at h1; cases h1))
  have dr : decide ((1 : Int) < (n : Int) + 1) = r := by
    rw [← HR.out, decide_eq_decide]
    constructor
    · intro h
      exact Decidable.byContradiction fun e => by have := n2.2 e; omega
    · intro h
      have : n ≠ 0 := fun e => n2.1 e h
      omega
  clear l2 e2 hw3 l3 m3 HW n2 n1
  refine wpAnyH_ready (rs := [2, 4]) (by kernel_rfl) (by simp) ?_
  refine AllReadyH.cons rfl (fun K hK => ?_) (AllReadyH.cons rfl (fun K hK => ?_) AllReadyH.nil)
  · refine step_lookup rfl (.tmp 10) (.tmp 11) 137 rfl _ L0.out ?_
    (refine hK.out _ _ S0 (fun hHeld => ?_); (clear hK K; try simp only [List.getElem_toArray, List.getElem_cons_succ, List.getElem_cons_zero, Act.put, List.setIfInBounds_toArray, List.set_cons_zero, List.set_cons_succ]))
    (refine Peel.take 3 (v := ?_) rfl rfl (by kernel_rfl) (by kernel_rfl) (by kernel_rfl) (fun _ _ _ h => h) (by assumption) ?_ ?_; rotate_left; (focus (intro w hSw; obtain ⟨s0, s1, s2⟩ := hSw; (try dsimp only at s0 s1 s2); (try simp only [List.getElem_toArray, List.getElem_cons_succ, List.getElem_cons_zero]); go_simp; try (with_reducible rfl))); try simp only [List.getElem_toArray, List.getElem_cons_succ, List.getElem_cons_zero, Act.put, List.setIfInBounds_toArray, List.set_cons_zero, List.set_cons_succ])
    (refine wpAnyH_ready (rs := [4]) (by kernel_rfl) (by simp) ?_; refine AllReadyH.cons rfl (fun K hK => ?_) AllReadyH.nil)
    refine step_entry rfl (.tmp 10) (.tmp 11) 137 rfl _ M0.out ?_
    (refine hK.out _ _ S1 (fun hHeld => ?_); (clear hK K; try simp only [List.getElem_toArray, List.getElem_cons_succ, List.getElem_cons_zero, Act.put, List.setIfInBounds_toArray, List.set_cons_zero, List.set_cons_succ]))
    (refine Peel.take 5 (v := ?_) rfl rfl (by kernel_rfl) (by kernel_rfl) (by kernel_rfl) (fun _ _ _ h => h) (by assumption) ?_ ?_; rotate_left; (focus (intro w hSw; obtain ⟨s0, s1, s2⟩ := hSw; (try dsimp only at s0 s1 s2); (try simp only [List.getElem_toArray, List.getElem_cons_succ, List.getElem_cons_zero]); go_simp; try (with_reducible rfl))); try simp only [List.getElem_toArray, List.getElem_cons_succ, List.getElem_cons_zero, Act.put, List.setIfInBounds_toArray, List.set_cons_zero, List.set_cons_succ])
    (refine wpAnyH_done (by kernel_rfl) ?_ _; simp only [Peel.Qn, List.drop_succ_cons, List.drop_zero]; clear hHeld)
    rw [Rp.wraps_i64 _ (by omega) (by omega)]
    refine wpList_entryStore_run rfl (.tmp 10) (.tmp 15) (.tmp 13) 137 rfl E2.out ?_
    (clear E2 L0 L2 M0 S0 S1 HB3 HB4 HG1 hHeld; generalize setBlock (setBlock _ _ _) _ _ = W5 at S2 L3 M3 HG2 HC2 ⊢; obtain ⟨u0, u1, u2⟩ := S2; go_wp2_with (first | (at_lookup; refine wpList_lookup_run rfl (.tmp 16) (.tmp 17) 137 rfl _ L3.out ?_)); go_ret; exact ⟨rfl, ⟨M3.out, HC2.out⟩, Rp.grown_then (Rp.grown_below HB2.out (some b)) HG2.out⟩)
  · refine step_entry rfl (.tmp 10) (.tmp 11) 137 rfl _ M0.out ?_
    (refine hK.out _ _ S1 (fun hHeld => ?_); (clear hK K; try simp only [List.getElem_toArray, List.getElem_cons_succ, List.getElem_cons_zero, Act.put, List.setIfInBounds_toArray, List.set_cons_zero, List.set_cons_succ]))
    (refine Peel.take 5 (v := ?_) rfl rfl (by kernel_rfl) (by kernel_rfl) (by kernel_rfl) (fun _ _ _ h => h) (by assumption) ?_ ?_; rotate_left; (focus (intro w hSw; obtain ⟨s0, s1, s2⟩ := hSw; (try dsimp only at s0 s1 s2); (try simp only [List.getElem_toArray, List.getElem_cons_succ, List.getElem_cons_zero]); go_simp; try (with_reducible rfl))); try simp only [List.getElem_toArray, List.getElem_cons_succ, List.getElem_cons_zero, Act.put, List.setIfInBounds_toArray, List.set_cons_zero, List.set_cons_succ])
    (refine wpAnyH_ready (rs := [2]) (by kernel_rfl) (by simp) ?_; refine AllReadyH.cons rfl (fun K hK => ?_) AllReadyH.nil)
    refine step_lookup rfl (.tmp 10) (.tmp 11) 137 rfl _ L2.out ?_
    (refine hK.out _ _ S1 (fun hHeld => ?_); (clear hK K; try simp only [List.getElem_toArray, List.getElem_cons_succ, List.getElem_cons_zero, Act.put, List.setIfInBounds_toArray, List.set_cons_zero, List.set_cons_succ]))
    (refine Peel.take 3 (v := ?_) rfl rfl (by kernel_rfl) (by kernel_rfl) (by kernel_rfl) (fun _ _ _ h => h) (by assumption) ?_ ?_; rotate_left; (focus (intro w hSw; obtain ⟨s0, s1, s2⟩ := hSw; (try dsimp only at s0 s1 s2); (try simp only [List.getElem_toArray, List.getElem_cons_succ, List.getElem_cons_zero]); go_simp; try (with_reducible rfl))); try simp only [List.getElem_toArray, List.getElem_cons_succ, List.getElem_cons_zero, Act.put, List.setIfInBounds_toArray, List.set_cons_zero, List.set_cons_succ])
    (refine wpAnyH_done (by kernel_rfl) ?_ _; simp only [Peel.Qn, List.drop_succ_cons, List.drop_zero]; clear hHeld)
    rw [Rp.wraps_i64 _ (by omega) (by omega)]
    refine wpList_entryStore_run rfl (.tmp 10) (.tmp 15) (.tmp 13) 137 rfl E2.out ?_
    (clear E2 L0 L2 M0 S0 S1 HB3 HB4 HG1 hHeld; generalize setBlock (setBlock _ _ _) _ _ = W5 at S2 L3 M3 HG2 HC2 ⊢; obtain ⟨u0, u1, u2⟩ := S2; go_wp2_with (first | (at_lookup; refine wpList_lookup_run rfl (.tmp 16) (.tmp 17) 137 rfl _ L3.out ?_)); go_ret; exact ⟨rfl, ⟨M3.out, HC2.out⟩, Rp.grown_then (Rp.grown_below HB2.out (some b)) HG2.out⟩)
end Go.Proofs.Ytnomgkmeomlccaa.Blk
