/- TimerPlays, walked. -/
import Derived.Test.YtjpjphdcpdjlkaaOps
import Derived.Test.YtjpjphdcpdjlkaaStep
import Derived.StillTailTactics
set_option linter.unusedVariables false
set_option linter.unusedVariables false
set_option linter.unusedSimpArgs false
namespace Go.Proofs.Ytjpjphdcpdjlkaa.Tim
open Go.RowKit Go.Proofs.Ytjpjphdcpdjlkaa.PTimerPlays Go.Proofs.YtjpjphdcpdjlkaaW.PrintWords Go.Proofs.YtjpjphdcpdjlkaaW.PrintLast Go.Proofs.YtjpjphdcpdjlkaaW.PrintMore


theorem mx_ge (a b : Int) : a ≤ mx a b ∧ b ≤ mx a b ∧ (mx a b = a ∨ mx a b = b) := by
  unfold mx; split <;> omega
theorem cell62_0 {W : World} {g : Nat} {f0 f1 f2 : Int} (h : W.heap[g]? = some (.cells #[.int .i64 f0, .int .i64 f1, .int .i64 f2] 62 (0, 0))) : W.cell? ⟨g, 0, none⟩ = some (.int .i64 f0) := (blk_cell h 0).trans rfl
theorem cell62_1 {W : World} {g : Nat} {f0 f1 f2 : Int} (h : W.heap[g]? = some (.cells #[.int .i64 f0, .int .i64 f1, .int .i64 f2] 62 (0, 0))) : W.cell? ⟨g, 1, none⟩ = some (.int .i64 f1) := (blk_cell h 1).trans rfl
theorem cell62_2 {W : World} {g : Nat} {f0 f1 f2 : Int} (h : W.heap[g]? = some (.cells #[.int .i64 f0, .int .i64 f1, .int .i64 f2] 62 (0, 0))) : W.cell? ⟨g, 2, none⟩ = some (.int .i64 f2) := (blk_cell h 2).trans rfl
def Inv (i : Nat) (f0 f1 f2 : Int) : Prop := (1 ≤ f0 ∧ f0 ≤ 1000001) ∧ (0 ≤ f1 ∧ f1 ≤ i) ∧ (1 ≤ f2 ∧ f2 ≤ 16)


set_option maxHeartbeats 4000000 in
theorem view_q (g : Nat) (f0 f1 f2 : Int) (w0 w : World) (hI : IsS83 w0 w g f0 f1 f2) : Calls Try.prog 32 #[.pointer (some ⟨g, 0, none⟩)] w fun e w' => e = .returned (.int .i64 f0) ∧ w = w' := by
  have hc := cellS83_0 hI.1
  clear hI
  go_enter Try.func32, Try.ntmps32
  go_wp2
  go_ret
  exact ⟨rfl, rfl⟩

set_option maxHeartbeats 4000000 in
theorem fails_q (g : Nat) (f0 f1 f2 : Int) (w0 w : World) (hI : IsS83 w0 w g f0 f1 f2) : Calls Try.prog 33 #[.pointer (some ⟨g, 0, none⟩)] w fun e w' => e = .returned (.int .i64 f1) ∧ w = w' := by
  have hc := cellS83_1 hI.1
  clear hI
  go_enter Try.func33, Try.ntmps33
  go_wp2
  go_ret
  exact ⟨rfl, rfl⟩

set_option maxHeartbeats 4000000 in
theorem left_q (g : Nat) (f0 f1 f2 : Int) (w0 w : World) (hI : IsS83 w0 w g f0 f1 f2) : Calls Try.prog 34 #[.pointer (some ⟨g, 0, none⟩)] w fun e w' => e = .returned (.int .i64 f2) ∧ w = w' := by
  have hc := cellS83_2 hI.1
  clear hI
  go_enter Try.func34, Try.ntmps34
  go_wp2
  go_ret
  exact ⟨rfl, rfl⟩

set_option maxHeartbeats 4000000 in
theorem halted_q (g : Nat) (f0 f1 f2 : Int) (w0 w : World) (hI : IsS83 w0 w g f0 f1 f2) (r : Bool) (hr : decide (1000001 ≤ f0) = r) : Calls Try.prog 35 #[.pointer (some ⟨g, 0, none⟩)] w fun e w' => e = .returned (.bool r) ∧ w = w' := by
  have hc := cellS83_0 hI.1
  clear hI
  go_enter Try.func35, Try.ntmps35
  go_wp2
  go_ret
  exact ⟨rfl, rfl⟩

theorem bcell {W w1 : World} (hb : Below W.heap.size W w1) : (∀ b o, b < W.heap.size → w1.cell? ⟨b, o, none⟩ = W.cell? ⟨b, o, none⟩) ∧ (∀ b o, b < W.heap.size → w1.frozen? ⟨b, o, none⟩ = W.frozen? ⟨b, o, none⟩) :=
  ⟨fun b o h => hb.cell (p := ⟨b, o, none⟩) h, fun b o h => hb.frozen (p := ⟨b, o, none⟩) h⟩
theorem cell_set_far {W : World} {a : Addr} {k j : Nat} {u v : Value} (hc : W.cell? a = some v) (hne : a.block ≠ k) : (W.setCell ⟨k, j, none⟩ u).cell? a = some v := by
  have := Below.heap_setCell W ⟨k, j, none⟩ u a.block hne
  unfold World.cell? at hc ⊢
  rw [this]
  exact hc
/-- what a round's statements find: the timer, the reference's, and a call -/
def St (w : World) (g h6 b o : Nat) (f0 f1 f2 y0 y1 y2 kd vw : Int) (W : World) : Prop :=
  IsS83 w W g f0 f1 f2 ∧ W.heap[h6]? = some (.cells #[.int .i64 y0, .int .i64 y1, .int .i64 y2] 62 (0, 0)) ∧ Below w.heap.size w W ∧ W.cell? ⟨b, o, none⟩ = some (.int .u8 kd) ∧ W.cell? ⟨b, o + 1, none⟩ = some (.int .i64 vw)
/-- the same, whatever the timer -/
def StE (w : World) (g h6 b o : Nat) (y0 y1 y2 kd vw : Int) (W : World) : Prop := ∃ f0 f1 f2, St w g h6 b o f0 f1 f2 y0 y1 y2 kd vw W
section
variable {w W W1 : World} {g h6 b o : Nat} {f0 f1 f2 y0 y1 y2 kd vw : Int}
theorem St.all (h : St w g h6 b o f0 f1 f2 y0 y1 y2 kd vw W) : W.cell? ⟨h6, 0, none⟩ = some (.int .i64 y0) ∧ W.cell? ⟨h6, 1, none⟩ = some (.int .i64 y1) ∧ W.cell? ⟨h6, 2, none⟩ = some (.int .i64 y2) ∧ W.cell? ⟨b, o, none⟩ = some (.int .u8 kd) ∧ W.cell? ⟨b, o + 1, none⟩ = some (.int .i64 vw) ∧ Aside0 (St w g h6 b o f0 f1 f2 y0 y1 y2 kd vw W) := ⟨cell62_0 h.2.1, cell62_1 h.2.1, cell62_2 h.2.1, h.2.2.2.1, h.2.2.2.2, ⟨h⟩⟩
theorem St.allE (h : St w g h6 b o f0 f1 f2 y0 y1 y2 kd vw W) : W.cell? ⟨h6, 0, none⟩ = some (.int .i64 y0) ∧ W.cell? ⟨h6, 1, none⟩ = some (.int .i64 y1) ∧ W.cell? ⟨h6, 2, none⟩ = some (.int .i64 y2) ∧ W.cell? ⟨b, o, none⟩ = some (.int .u8 kd) ∧ W.cell? ⟨b, o + 1, none⟩ = some (.int .i64 vw) ∧ Aside0 (StE w g h6 b o y0 y1 y2 kd vw W) := ⟨cell62_0 h.2.1, cell62_1 h.2.1, cell62_2 h.2.1, h.2.2.2.1, h.2.2.2.2, ⟨_, _, _, h⟩⟩
theorem St.below (h : St w g h6 b o f0 f1 f2 y0 y1 y2 kd vw W) (hb : Below W.heap.size W W1) : St w g h6 b o f0 f1 f2 y0 y1 y2 kd vw W1 :=
  ⟨h.1.below hb, (hb.block h6 (blk_lt h.2.1)).trans h.2.1, below_step h.2.2.1 hb, pw_cell_below hb h.2.2.2.1, pw_cell_below hb h.2.2.2.2⟩
theorem St.drew (h : St w g h6 b o f0 f1 f2 y0 y1 y2 kd vw W) : St w g h6 b o f0 f1 f2 y0 y1 y2 kd vw W.drew := h.below (below_drew (Below.refl _ _))
theorem St.alloc (h : St w g h6 b o f0 f1 f2 y0 y1 y2 kd vw W) (x : Obj) : St w g h6 b o f0 f1 f2 y0 y1 y2 kd vw (W.alloc x) := h.below (below_alloc (Below.refl _ _) x)
theorem St.tm (h : St w g h6 b o f0 f1 f2 y0 y1 y2 kd vw W) : IsS83 w W g f0 f1 f2 := h.1
theorem St.bel (h : St w g h6 b o f0 f1 f2 y0 y1 y2 kd vw W) : Below w.heap.size w W := h.2.2.1
/-- the timer was called -/
theorem St.called {x0 x1 x2 : Int} (h : St w g h6 b o f0 f1 f2 y0 y1 y2 kd vw W) (hi : IsS83 w W1 g x0 x1 x2) (hb : Below w.heap.size w W1) (hk : KeepBut W W1 g none) (hn : h6 ≠ g) (hw : b < w.heap.size) : St w g h6 b o x0 x1 x2 y0 y1 y2 kd vw W1 := by
  have hg := hi.2
  have hne : b ≠ g := by omega
  exact ⟨hi, (hk.2 h6 (blk_lt h.2.1) hn (by simp)).trans h.2.1, hb, keep_cell hk h.2.2.2.1 hne, keep_cell hk h.2.2.2.2 hne⟩
/-- the reference's timer is stored -/
theorem St.put (h : St w g h6 b o f0 f1 f2 y0 y1 y2 kd vw W) (hn : h6 ≠ g) (hg : w.heap.size ≤ h6) (hw : b < w.heap.size) (x0 x1 x2 : Int) :
    St w g h6 b o f0 f1 f2 x0 x1 x2 kd vw (((W.setCell ⟨h6, 0, none⟩ (.int .i64 x0)).setCell ⟨h6, 1, none⟩ (.int .i64 x1)).setCell ⟨h6, 2, none⟩ (.int .i64 x2)) := by
  have hne : b ≠ h6 := by omega
  refine ⟨((h.1.far (p := ⟨h6, 0, none⟩) (Ne.symm hn) _).far (p := ⟨h6, 1, none⟩) (Ne.symm hn) _).far (p := ⟨h6, 2, none⟩) (Ne.symm hn) _, ?_, below_set (below_set (below_set h.2.2.1 hg) hg) hg, ?_, ?_⟩
  · exact blk_put (blk_put (blk_put h.2.1 0 (.int .i64 x0) rfl) 1 (.int .i64 x1) rfl) 2 (.int .i64 x2) rfl
  · exact cell_set_far (cell_set_far (cell_set_far h.2.2.2.1 hne) hne) hne
  · exact cell_set_far (cell_set_far (cell_set_far h.2.2.2.2 hne) hne) hne
theorem St.set {W0 : World} {k : Nat} (h : St w g h6 b o f0 f1 f2 y0 y1 y2 kd vw W) (h0 : St w g h6 b o f0 f1 f2 y0 y1 y2 kd vw W0) (hk : W0.heap.size ≤ k) (j : Nat) (u : Value) : St w g h6 b o f0 f1 f2 y0 y1 y2 kd vw (W.setCell ⟨k, j, none⟩ u) := by
  have hg := h0.1.lt
  have h6' := blk_lt h0.2.1
  have hb := World.block_lt_of_cell? W0 _ h0.2.2.2.1
  simp only at hb
  have hz := h0.2.2.1.size
  exact ⟨⟨(Below.heap_setCell W ⟨k, j, none⟩ u g (by simp only; omega)).trans h.1.1, h.1.2⟩, (Below.heap_setCell W ⟨k, j, none⟩ u h6 (by simp only; omega)).trans h.2.1, below_set h.2.2.1 (by omega), cell_set_far h.2.2.2.1 (by simp only; omega), cell_set_far h.2.2.2.2 (by simp only; omega)⟩
end

set_option maxHeartbeats 8000000 in
set_option maxRecDepth 100000 in
theorem plays_few (v : Int) (A : Option Addr) (c : Nat) (l : List OpT) (w : World) (hn : l.length ≤ 200) (hl : Rd.Row opK w A l) : Calls Try.prog 12 #[.int .i64 v, .slice A l.length c] w fun e w' => e = .returned (.bool true) ∧ Below w.heap.size w w' := by
  have HB := Aside0.mk (Below.refl w.heap.size w)
  have HL := Aside0.mk hl
  clear hl
  have h200 : decide (200 < (l.length : Int)) = false := decide_eq_false (by omega)
  go_enter Try.func12, Try.ntmps12
  go_wp2_with (first | (go_at_call 20; (with_reducible refine (awake_any _).mono ?_); rintro e w' ⟨rfl, hb⟩; have n0 := Aside0.mk (below_step HB.out hb); clear HB hb; have HB := n0; clear n0) | (go_at_call 30; (with_reducible refine (new_any v w _ HB.out).mono ?_); rintro e w' ⟨g, rfl, hi, hb, hg, hb1⟩; have HI := Aside0.mk hi; clear hi hg hb1; have n0 := Aside0.mk hb; clear HB hb; have HB := n0; clear n0) | (go_at_call 41; (with_reducible refine (comitiaref15_New.calls v (mn (mx v 1) 1000001) 0 4 _ rfl).mono ?_); rintro e w' ⟨rfl, hb⟩; have n1 := Aside0.mk (HI.out.below hb); clear HI; have HI := n1; clear n1; have n0 := Aside0.mk (below_step HB.out hb); clear HB hb; have HB := n0; clear n0))
  have hm := mn_le (mx v 1) 1000001
  have hm2 := mx_ge v 1
  have HV := Aside0.mk (show Inv 0 (mn (mx v 1) 1000001) 0 4 from ⟨by omega, by omega, by omega⟩)
  clear hm hm2
  generalize mn (mx v 1) 1000001 = f0 at HI HV ⊢
  have HI2 := Aside0.mk (HI.out.alloc (.cells #[.int .i64 f0, .int .i64 0, .int .i64 4] 62))
  have HB2 := Aside0.mk (below_alloc HB.out (.cells #[.int .i64 f0, .int .i64 0, .int .i64 4] 62))
  have HX := Aside0.mk (show (w'.alloc (.cells #[.int .i64 f0, .int .i64 0, .int .i64 4] 62)).heap[w'.heap.size]? = some (.cells #[.int .i64 f0, .int .i64 0, .int .i64 4] 62 (0, 0)) from by simpa using heap_alloc_new w' _)
  have HN := Aside0.mk (show w'.heap.size ≠ g from by have := HI.out.lt; omega)
  have HG := Aside0.mk (show w.heap.size ≤ w'.heap.size from HB.out.size)
  clear HI HB
  generalize w'.alloc (.cells #[.int .i64 f0, .int .i64 0, .int .i64 4] 62) = w1 at HI2 HB2 HX ⊢
  generalize w'.heap.size = h6 at HX HN HG ⊢
  go_loopg [7] l.length (fun gk v7 wr => ∃ (i : Nat) (f0 f1 f2 : Int), i + gk = l.length ∧ v7 = .int .i64 i ∧ Aside0 (IsS83 w wr g f0 f1 f2) ∧ Aside0 (wr.heap[h6]? = some (.cells #[.int .i64 f0, .int .i64 f1, .int .i64 f2] 62 (0, 0))) ∧ Aside0 (Below w.heap.size w wr) ∧ Aside0 (Inv i f0 f1 f2))
  case atStart => exact ⟨0, f0, 0, 4, by omega, rfl, HI2, HX, HB2, HV⟩
  case round =>
    clear HI2 HX HB2 HV
    obtain ⟨i, f0, f1, f2, hi, rfl, HI, HX, HB, HV⟩ := hrel
    by_cases hlt : i < l.length
    · obtain ⟨b, o, kd, vw, rfl, hbw, p1, p2, p5, p6⟩ := op_at HL.out HB.out hlt
      have hx0 := cell62_0 HX.out
      have hx1 := cell62_1 HX.out
      have hx2 := cell62_2 HX.out
      obtain ⟨r, x0, x1, x2, e1, e2, e3, e4, e5, e6⟩ := step_alike f0 f1 f2 kd vw i (by omega) HV.out.1 HV.out.2.1 HV.out.2.2 ⟨p1, p2⟩
      have E1 := Aside0.mk e1
      have E2 := Aside0.mk e2
      have E3 := Aside0.mk (show Inv (i + 1) x0 x1 x2 from ⟨e3, e4, e5⟩)
      clear e1 e2 e3 e4 e5
      have HS := Aside0.mk (show St w g h6 b (o + i * 2) f0 f1 f2 f0 f1 f2 kd vw wr from ⟨HI.out, HX.out, HB.out, p5, p6⟩)
      clear HI HX HB hx0 hx1 hx2 p5 p6
      go_upto_region 7 with (fail)
      go_cut [8, 9] from 23 to 83 (fun v8 v9 wx => ∃ k, v8 = .pointer (some ⟨k, 0, none⟩) ∧ v9 = .bool r ∧ Aside0 (St w g h6 b (o + i * 2) f0 f1 f2 f0 f1 f2 kd vw wx) ∧ Aside0 (wx.heap[k]? = some (.cells #[.int .i64 x0, .int .i64 x1, .int .i64 x2] 62 (0, 0))) ∧ Aside0 (k ≠ h6))
      case first =>
        go_region_held3 (fun w' => w'.cell? ⟨h6, 0, none⟩ = some (.int .i64 f0) ∧ w'.cell? ⟨h6, 1, none⟩ = some (.int .i64 f1) ∧ w'.cell? ⟨h6, 2, none⟩ = some (.int .i64 f2) ∧ w'.cell? ⟨b, o + i * 2, none⟩ = some (.int .u8 kd) ∧ w'.cell? ⟨b, o + i * 2 + 1, none⟩ = some (.int .i64 vw) ∧ Aside0 (St w g h6 b (o + i * 2) f0 f1 f2 f0 f1 f2 kd vw w')) (first | exact St.all (St.drew HS.out) | exact St.all hs | exact St.all (St.alloc hs _) | exact St.all (St.set (St.set (St.set hs HS.out (Nat.le_refl _) _ _) HS.out (Nat.le_refl _) _ _) HS.out (Nat.le_refl _) _ _) | exact St.all (St.alloc (‹_ ∧ _ ∧ _ ∧ _ ∧ _ ∧ Aside0 (St _ _ _ _ _ _ _ _ _ _ _ _ _ _)›).2.2.2.2.2.out _) | (trace_state; fail)) (first | (go_at_call 42; (with_reducible refine (comitiaref15_Timer_Do.calls 3 f0 f1 f2 kd vw x0 x1 x2 r _ E2.out).mono ?_); rintro e w' ⟨rfl, hb⟩; have hs := St.below (‹_ ∧ _ ∧ _ ∧ _ ∧ _ ∧ Aside0 (St _ _ _ _ _ _ _ _ _ _ _ _ _ _)›).2.2.2.2.2.out hb; obtain ⟨hc, hf⟩ := bcell hb))
        · go_wp2_with fail
          go_meet
          exact ⟨_, rfl, rfl, ⟨hs.alloc _⟩, ⟨by simpa using heap_alloc_new w' _⟩, ⟨by have := blk_lt hs.2.1; omega⟩⟩
        · have hk0 : w'.heap[wr.heap.size]? = some (.cells #[.int .i64 0, .int .i64 0, .int .i64 0] 62 (0, 0)) := (hb.block _ (by simp)).trans (heap_alloc_new wr _)
          have hs3 := St.set (St.set (St.set hs HS.out (Nat.le_refl _) 0 (.int .i64 x0)) HS.out (Nat.le_refl _) 1 (.int .i64 x1)) HS.out (Nat.le_refl _) 2 (.int .i64 x2)
          have hne : wr.heap.size ≠ h6 := by have := blk_lt HS.out.2.1; omega
          have hk3 := blk_put (cs := #[.int .i64 x0, .int .i64 x1, .int .i64 0]) (blk_put (cs := #[.int .i64 x0, .int .i64 0, .int .i64 0]) (blk_put hk0 0 (.int .i64 x0) rfl) 1 (.int .i64 x1) rfl) 2 (.int .i64 x2) rfl
          clear hb hc hf
          go_wp2_with fail
          go_meet
          exact ⟨_, rfl, rfl, ⟨hs3⟩, ⟨hk3⟩, ⟨hne⟩⟩
      case rest =>
        clear HS
        obtain ⟨k, rfl, rfl, HS, HKB, HNE⟩ := hcut
        have hk0 := cell62_0 HKB.out
        have hk1 := cell62_1 HKB.out
        have hk2 := cell62_2 HKB.out
        have hx0 := cell62_0 HS.out.2.1
        have hx1 := cell62_1 HS.out.2.1
        have hx2 := cell62_2 HS.out.2.1
        have hz0 := blk_frozen HS.out.2.1 0
        have hz1 := blk_frozen HS.out.2.1 1
        have hz2 := blk_frozen HS.out.2.1 2
        go_upto_region 9 with (fail)
        have HS2 := Aside0.mk (HS.out.put HN.out HG.out hbw x0 x1 x2)
        clear HS HKB HNE hk0 hk1 hk2 hx0 hx1 hx2 hz0 hz1 hz2
        generalize ((wc.setCell { block := h6, off := 0 } (Value.int IntKind.i64 x0)).setCell { block := h6, off := 1 } (Value.int IntKind.i64 x1)).setCell { block := h6, off := 2 } (Value.int IntKind.i64 x2) = w2 at HS2 ⊢
        have q0 : (r != r) = false := by simp
        have q1 : (x0 != x0) = false := by simp
        have q2 : (x1 != x1) = false := by simp
        have q3 : (x2 != x2) = false := by simp
        have q4 : decide (x0 < f0) = false := decide_eq_false (by omega)
        obtain ⟨hh, hhe⟩ : ∃ hh, decide (1000001 ≤ x0) = hh := ⟨_, rfl⟩
        have q5 : decide (1000000 < x0) = hh := by rw [← hhe]; simp only [decide_eq_decide]; omega
        have q6 : (hh != hh) = false := by simp
        have HH := Aside0.mk hhe
        clear hhe e6
        go_wp2_with (first | (go_at_call 32; (with_reducible refine (view_q g f0 f1 f2 w _ HS2.out.tm).mono ?_); rintro e w' ⟨rfl, rfl⟩))
        go_region_held3 (fun w' => w'.cell? ⟨h6, 0, none⟩ = some (.int .i64 x0) ∧ w'.cell? ⟨h6, 1, none⟩ = some (.int .i64 x1) ∧ w'.cell? ⟨h6, 2, none⟩ = some (.int .i64 x2) ∧ w'.cell? ⟨b, o + i * 2, none⟩ = some (.int .u8 kd) ∧ w'.cell? ⟨b, o + i * 2 + 1, none⟩ = some (.int .i64 vw) ∧ Aside0 (StE w g h6 b (o + i * 2) x0 x1 x2 kd vw w')) (first | exact St.allE (St.drew HS2.out) | exact St.allE hs3 | assumption | (trace_state; fail)) (first | (go_at_call 36; (with_reducible refine (call_any g f0 f1 f2 kd vw p1 p2 w _ (St.drew HS2.out).tm (St.drew HS2.out).bel (r, x0, x1, x2) E1.out).mono ?_); rintro e w3 ⟨rfl, hi3, hb3, hk3⟩; have hs3 := (St.drew HS2.out).called hi3 hb3 hk3 HN.out hbw; clear hi3 hb3 hk3) | (go_at_call 32; (with_reducible refine (view_q g x0 x1 x2 w _ hs3.tm).mono ?_); rintro e w' ⟨rfl, rfl⟩) | (go_at_call 33; (with_reducible refine (fails_q g x0 x1 x2 w _ hs3.tm).mono ?_); rintro e w' ⟨rfl, rfl⟩) | (go_at_call 34; (with_reducible refine (left_q g x0 x1 x2 w _ hs3.tm).mono ?_); rintro e w' ⟨rfl, rfl⟩) | (go_at_call 35; (with_reducible refine (halted_q g x0 x1 x2 w _ hs3.tm hh HH.out).mono ?_); rintro e w' ⟨rfl, rfl⟩))
        go_wp2
        go_roundg (gk - 1)
        case measure => omega
        case rel => exact ⟨i + 1, x0, x1, x2, by omega, by go_num, ⟨hs3.1⟩, ⟨hs3.2.1⟩, ⟨hs3.2.2.1⟩, E3⟩
    · obtain rfl : i = l.length := by omega
      go_wp2
      go_ret
      exact ⟨rfl, HB.out⟩

set_option maxHeartbeats 8000000 in
set_option maxRecDepth 100000 in
theorem plays_any (w : World) (v : Int) (hv : (Lit.int .i64 v).wf = true) (A : Option Addr) (c : Nat) (l : List OpT) (hc : l.length ≤ c) (hm : c ≤ maxLen) (hl : Rd.Row opK w A l) : Calls Try.prog 12 #[.int .i64 v, .slice A l.length c] w fun e w' => e = .returned (.bool true) ∧ Below w.heap.size w w' := by
  by_cases hn : l.length ≤ 200
  · exact plays_few v A c l w hn hl
  · unfold maxLen at hm
    have HB := Aside0.mk (Below.refl w.heap.size w)
    have h100 : decide (200 < (l.length : Int)) = true := decide_eq_true (by omega)
    clear hl hn hv
    go_enter Try.func12, Try.ntmps12
    go_wp2_with (first | (go_at_call 20; (with_reducible refine (awake_any _).mono ?_); rintro e w' ⟨rfl, hb⟩; have n0 := Aside0.mk (below_step HB.out hb); clear HB hb; have HB := n0; clear n0))
    go_ret
    exact ⟨rfl, HB.out⟩
end Go.Proofs.Ytjpjphdcpdjlkaa.Tim
