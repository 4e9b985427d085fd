/- The ledger's laws: awake; At: walked. -/
import Derived.Test.YtgleoeiiiadanaaLedH
set_option linter.unusedVariables false
set_option linter.unusedSimpArgs false
namespace Go.Proofs.Ytgleoeiiiadanaa.Led
open Go.RowKit Rd Api Own Mv Num Dig Wtx

theorem idx_nil (c s : Int) : idx [] c s = none := rfl
-- <L1
set_option maxHeartbeats 4000000 in
set_option maxRecDepth 100000 in
theorem awake_any (w : World) : Calls Try.prog 35 #[] w fun e w' => e = .returned (.bool true) ∧ Below w.heap.size w w' := by
  go_enter Try.func35, Try.ntmps35
  go_upto_region 2 with (first
    | (go_at_call 37; (with_reducible refine (new_any _).mono ?_); rintro e w1 ⟨g, b, ve, vd, rfl, hL, hb⟩; have HL := Sd.mk hL; have HB := Sd.mk hb; clear hL hb))
  have HIN := Sd.mk (fun (W : World) => (⟨⟨Nat.le_refl _, by omega, fun j x hx => by
      rcases j with _ | j
      · simp at hx
        subst hx
        exact ⟨W.heap.size, 0, _, rfl, rfl, fun i v hv => by rw [show (0 : Nat) + 0 * rqN.sz + i = i by omega]; exact blk_at (blk_new W _) i v (by simpa [fR] using hv)⟩
      · simp at hx⟩, fun _ a ha => by cases ha; exact ⟨fun h => h.2 rfl, by simp⟩⟩ : In (fun k => w.heap.size ≤ k ∧ k ≠ W.heap.size) (some ⟨W.heap.size, 0, none⟩) 1 [⟨0, 1, { data := #[] }⟩] (W.alloc (.cells #[.int .i64 0, .int .i64 1, .string { data := #[] }] 60))))
  have HLD := Sd.mk ((HL.out.wider (S' := fun k => w.heap.size ≤ k ∧ k ≠ w1.heap.size) (fun k hk s => ⟨s, by omega⟩)).below (below_one w1 (.cells #[.int .i64 0, .int .i64 1, .string { data := #[] }] 60)))
  have HS := Sd.mk (show ∀ k, (w1.alloc (.cells #[.int .i64 0, .int .i64 1, .string { data := #[] }] 60)).heap.size ≤ k → (w.heap.size ≤ k ∧ k ≠ w1.heap.size) from fun k hk => by have := HB.out.size; simp at hk; omega)
  go_wp2_with (first
    | (go_at_call 38; (refine (applies_any (fun k => w.heap.size ≤ k ∧ k ≠ w1.heap.size) _ g b ve vd [] [⟨0, 1, { data := #[] }⟩] HLD.out HS.out _ _ (HIN.out _) (fun x hx => by simp at hx; subst hx; exact ⟨⟨by decide, by decide⟩, ⟨by decide, by decide⟩, by decide⟩) (by simp)).mono ?_); rintro e w2 ⟨v, ve', vd', rfl, hL2, hO, hnew, hfr⟩; obtain ⟨A6, q6, rfl⟩ := OwnR.slice hO; rw [posAll_length]; have HL2 := Sd.mk (show Led _ g b ve' vd' [⟨0, 1, { data := #[] }⟩] w2 from hL2); have HF2 := Sd.mk hfr; clear hL2 hO hnew hfr)
    | (go_at_call 48; (refine (len_any HL2.out).mono ?_); rintro e w3 ⟨rfl, rfl⟩))
  go_ret
  exact ⟨rfl, (below_then HB.out (below_one _ _)).trans (HF2.out.toBelow (B := w.heap.size) (fun k hk s => by have := s.1; omega) (by have := HB.out.size; simp; omega))⟩
-- L1>

section
variable {S : Nat → Prop} {W : World} {g b : Nat} {ve vd : Value} {xs : List Rq}
-- <L2
set_option maxHeartbeats 4000000 in
set_option maxRecDepth 100000 in
theorem at_no (h : Led S g b ve vd xs W) (n : Int) (hn : n < 0 ∨ (xs.length : Int) ≤ n) : Calls Try.prog 42 #[.pointer (some ⟨g, 0, none⟩), .int .i64 n] W fun e w' => e = .returned (.tuple #[.agg #[.int .i64 0, .int .i64 0, .string { data := #[] }], .bool false]) ∧ Below W.heap.size W w' := by
  obtain ⟨A, c, hv⟩ := OwnR.slice h.own
  have HB0 := below_one W (.cells #[.int .i64 0, .int .i64 0, .string { data := #[] }] 60)
  have HX := blk_new W (.cells #[.int .i64 0, .int .i64 0, .string { data := #[] }] 60)
  have g0 := blk_at (blk_keep h.blk HB0) 0 _ rfl
  obtain ⟨m, hm⟩ : ∃ m, m = xs.length := ⟨_, rfl⟩
  subst hv
  rw [← hm] at g0 hn
  clear h hm
  have HB := Sd.mk HB0
  have X := Sd.mk HX
  clear HB0 HX
  by_cases h0 : n < 0
  · have d0 : decide (n < 0) = true := decide_eq_true h0
    go_enter Try.func42, Try.ntmps42
    go_upto_region 1 with (fail)
    generalize hW : W.alloc _ = W1 at HB X g0 ⊢
    have y0 := blk_at X.out 0 _ rfl
    have y1 := blk_at X.out 1 _ rfl
    have y2 := blk_at X.out 2 _ rfl
    have f0 := blk_frz X.out 0
    have f1 := blk_frz X.out 1
    have f2 := blk_frz X.out 2
    go_wp2
    have X9 : (((W1.setCell ⟨W.heap.size, 0, none⟩ (.int .i64 0)).setCell ⟨W.heap.size, 1, none⟩ (.int .i64 0)).setCell ⟨W.heap.size, 2, none⟩ (.string { data := #[] })).heap[W.heap.size]? = some (.cells #[.int .i64 0, .int .i64 0, .string { data := #[] }] 60 (0, 0)) := (blk_set3 (blk_set3 (blk_set3 X.out 0 _) 1 _) 2 _).trans rfl
    have z0 := blk_at X9 0 _ rfl
    have z1 := blk_at X9 1 _ rfl
    have z2 := blk_at X9 2 _ rfl
    have hbel := ((HB.out.setCell (p := ⟨W.heap.size, 0, none⟩) (Nat.le_refl _) (.int .i64 0)).setCell (p := ⟨W.heap.size, 1, none⟩) (Nat.le_refl _) (.int .i64 0)).setCell (p := ⟨W.heap.size, 2, none⟩) (Nat.le_refl _) (.string { data := #[] })
    clear y0 y1 y2 f0 f1 f2 X9 X HB g0
    generalize ((W1.setCell ⟨W.heap.size, 0, none⟩ (.int .i64 0)).setCell _ _).setCell _ _ = w9 at z0 z1 z2 hbel ⊢
    exact bodyPost_ret (v := .tuple #[.agg #[.int .i64 0, .int .i64 0, .string { data := #[] }], .bool false]) (by simp [results, Try.results42, go_sem, z0, z1, z2]) rfl ⟨rfl, hbel⟩
  · have d0 : decide (n < 0) = false := decide_eq_false h0
    have d1 : decide ((m : Int) ≤ n) = true := decide_eq_true (by omega)
    go_enter Try.func42, Try.ntmps42
    go_upto_region 1 with (fail)
    generalize hW : W.alloc _ = W1 at HB X g0 ⊢
    have y0 := blk_at X.out 0 _ rfl
    have y1 := blk_at X.out 1 _ rfl
    have y2 := blk_at X.out 2 _ rfl
    have f0 := blk_frz X.out 0
    have f1 := blk_frz X.out 1
    have f2 := blk_frz X.out 2
    go_wp2
    have X9 : (((W1.setCell ⟨W.heap.size, 0, none⟩ (.int .i64 0)).setCell ⟨W.heap.size, 1, none⟩ (.int .i64 0)).setCell ⟨W.heap.size, 2, none⟩ (.string { data := #[] })).heap[W.heap.size]? = some (.cells #[.int .i64 0, .int .i64 0, .string { data := #[] }] 60 (0, 0)) := (blk_set3 (blk_set3 (blk_set3 X.out 0 _) 1 _) 2 _).trans rfl
    have z0 := blk_at X9 0 _ rfl
    have z1 := blk_at X9 1 _ rfl
    have z2 := blk_at X9 2 _ rfl
    have hbel := ((HB.out.setCell (p := ⟨W.heap.size, 0, none⟩) (Nat.le_refl _) (.int .i64 0)).setCell (p := ⟨W.heap.size, 1, none⟩) (Nat.le_refl _) (.int .i64 0)).setCell (p := ⟨W.heap.size, 2, none⟩) (Nat.le_refl _) (.string { data := #[] })
    clear y0 y1 y2 f0 f1 f2 X9 X HB g0
    generalize ((W1.setCell ⟨W.heap.size, 0, none⟩ (.int .i64 0)).setCell _ _).setCell _ _ = w9 at z0 z1 z2 hbel ⊢
    exact bodyPost_ret (v := .tuple #[.agg #[.int .i64 0, .int .i64 0, .string { data := #[] }], .bool false]) (by simp [results, Try.results42, go_sem, z0, z1, z2]) rfl ⟨rfl, hbel⟩
set_option maxHeartbeats 4000000 in
set_option maxRecDepth 100000 in
theorem at_yes (h : Led S g b ve vd xs W) (n : Nat) (hn : n < xs.length) (hlen : xs.length ≤ 1000) (x : Rq) (hx : xs[n] = x) : Calls Try.prog 42 #[.pointer (some ⟨g, 0, none⟩), .int .i64 (n : Nat)] W fun e w' => e = .returned (.tuple #[.agg #[.int .i64 x.c, .int .i64 x.s, .string x.b], .bool true]) ∧ Below W.heap.size W w' := by
  obtain ⟨A, c, hv, hs, -, -⟩ := own_row h.own
  have HB0 := below_one W (.cells #[.int .i64 0, .int .i64 0, .string { data := #[] }] 60)
  have HX := blk_new W (.cells #[.int .i64 0, .int .i64 0, .string { data := #[] }] 60)
  have g0 := blk_at (blk_keep h.blk HB0) 0 _ rfl
  obtain ⟨b2, o2, rfl, p0, p1, p2⟩ := rqN_at hs.row hn
  rw [hx] at p0 p1 p2
  have p0 := cell_below HB0 p0
  have p1 := cell_below HB0 p1
  have p2 := cell_below HB0 p2
  obtain ⟨m, hm⟩ : ∃ m, m = xs.length := ⟨_, rfl⟩
  subst hv
  rw [← hm] at g0
  have n1 : n < m := by omega
  have m1 : m ≤ 1000 := by omega
  have d0 : decide ((n : Int) < 0) = false := decide_eq_false (by omega)
  have d1 : decide ((m : Int) ≤ (n : Int)) = false := decide_eq_false (by omega)
  have d2 : decide (m ≤ n) = false := decide_eq_false (by omega)
  have hi : (n : Int) < m := by omega
  obtain ⟨xc, xq, xb⟩ := x
  simp only at p0 p1 p2 ⊢
  clear h hm hs hx hn hlen
  have HB := Sd.mk HB0
  have X := Sd.mk HX
  clear HB0 HX
  go_enter Try.func42, Try.ntmps42
  go_upto_region 1 with (fail)
  generalize hW : W.alloc _ = W1 at HB X g0 p0 p1 p2 ⊢
  have y0 := blk_at X.out 0 _ rfl
  have y1 := blk_at X.out 1 _ rfl
  have y2 := blk_at X.out 2 _ rfl
  have f0 := blk_frz X.out 0
  have f1 := blk_frz X.out 1
  have f2 := blk_frz X.out 2
  go_wp2
  have X9 : (((W1.setCell ⟨W.heap.size, 0, none⟩ (.int .i64 xc)).setCell ⟨W.heap.size, 1, none⟩ (.int .i64 xq)).setCell ⟨W.heap.size, 2, none⟩ (.string xb)).heap[W.heap.size]? = some (.cells #[.int .i64 xc, .int .i64 xq, .string xb] 60 (0, 0)) := (blk_set3 (blk_set3 (blk_set3 X.out 0 _) 1 _) 2 _).trans rfl
  have z0 := blk_at X9 0 _ rfl
  have z1 := blk_at X9 1 _ rfl
  have z2 := blk_at X9 2 _ rfl
  have hbel := ((HB.out.setCell (p := ⟨W.heap.size, 0, none⟩) (Nat.le_refl _) (.int .i64 xc)).setCell (p := ⟨W.heap.size, 1, none⟩) (Nat.le_refl _) (.int .i64 xq)).setCell (p := ⟨W.heap.size, 2, none⟩) (Nat.le_refl _) (.string xb)
  clear y0 y1 y2 f0 f1 f2 X9 X HB g0
  generalize ((W1.setCell ⟨W.heap.size, 0, none⟩ (.int .i64 xc)).setCell _ _).setCell _ _ = w9 at z0 z1 z2 hbel ⊢
  exact bodyPost_ret (v := .tuple #[.agg #[.int .i64 xc, .int .i64 xq, .string xb], .bool true]) (by simp [results, Try.results42, go_sem, z0, z1, z2]) rfl ⟨rfl, hbel⟩
-- L2>
end
end Go.Proofs.Ytgleoeiiiadanaa.Led
