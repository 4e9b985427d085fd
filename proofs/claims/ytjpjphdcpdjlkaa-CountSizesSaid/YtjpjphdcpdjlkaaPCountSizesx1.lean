-- PRINTED BY print.sh 35421559b90ae4d0a3588c463048766b98c2df88dd9212a6774a882060cdf62d: not written by this session
import Derived.Test.YtjpjphdcpdjlkaaPCountSizesx0
namespace Go.Proofs.Ytjpjphdcpdjlkaa.PCountSizes
open Go.RowKit Go.Proofs.YtjpjphdcpdjlkaaW.PrintWords Go.Proofs.YtjpjphdcpdjlkaaW.PrintLast Go.Proofs.YtjpjphdcpdjlkaaW.PrintMore
attribute [local go_sem] max2_int min2_int max_two min_two max_three min_three max_four min_four   -- for this text's walks alone
set_option linter.unusedVariables false
set_option linter.unusedSimpArgs false

/-! ### count_Faults: function 14 -/
def count_Faults.f (a0 : Int) : Option (Int) := some (wrap64 (Int.tdiv (wrap64 ((mx a0 1) - 1)) 3))
set_option maxHeartbeats 8000000 in
set_option maxRecDepth 100000 in
theorem count_Faults.calls (a0 : Int) (r : Int) (w : World) (h : count_Faults.f a0 = some r) :
    Calls Try.prog 14 #[.int .i64 a0] w fun e w' => e = .returned (.int .i64 r) ∧ Below w.heap.size w w' := by
  have HB := Aside0.mk (Below.refl w.heap.size w)
  have H : (some (wrap64 (Int.tdiv (wrap64 ((mx a0 1) - 1)) 3))) = some r := h
  clear h
  obtain ⟨ji2, hji2⟩ : ∃ j_ : Int, (mx a0 1) = j_ := ⟨_, rfl⟩
  replace H : (some (wrap64 (Int.tdiv (wrap64 ((ji2) - 1)) 3))) = some r := by first | (rw [hji2] at H; exact H) | (simp only [hji2] at H ⊢; exact H)
  (try (have hji2l : 1 ≤ ji2 := by (rw [← hji2]; unfold mx; (repeat' split) <;> omega)))
  (try (have hji2m : 0 ≤ ji2 := by omega))
  have hji2_ : (if a0 < 1 then 1 else a0) = ji2 := hji2
  obtain rfl := Option.some.inj H
  go_enter Try.func14, Try.ntmps14
  go_wp2
  go_ret
  exact ⟨by first | rfl | (simp [errW_none, errW_some] <;> rfl) | (simp only [← hji2]; first | rfl | (simp [errW_none, errW_some] <;> rfl)) | (simp [*, errW_none, errW_some] <;> rfl), by repeat (first | (with_reducible first | exact HB.out | apply below_alloc | apply pw_below_drewN | apply below_drew1) | exact HB.out)⟩

/-! ### count_Quorum: function 15 -/
def count_Quorum.f (a0 : Int) : Option (Int) := (count_Faults.f a0).bind fun t101 => (some (wrap64 ((mx a0 1) - t101)))
set_option maxHeartbeats 8000000 in
set_option maxRecDepth 100000 in
theorem count_Quorum.calls (a0 : Int) (r : Int) (w : World) (h : count_Quorum.f a0 = some r) :
    Calls Try.prog 15 #[.int .i64 a0] w fun e w' => e = .returned (.int .i64 r) ∧ Below w.heap.size w w' := by
  have HB := Aside0.mk (Below.refl w.heap.size w)
  have H : ((count_Faults.f a0).bind fun t101 => (some (wrap64 ((mx a0 1) - t101)))) = some r := h
  clear h
  obtain ⟨ji2, hji2⟩ : ∃ j_ : Int, (mx a0 1) = j_ := ⟨_, rfl⟩
  replace H : ((count_Faults.f a0).bind fun t101 => (some (wrap64 ((ji2) - t101)))) = some r := by first | (rw [hji2] at H; exact H) | (simp only [hji2] at H ⊢; exact H)
  (try (have hji2l : 1 ≤ ji2 := by (rw [← hji2]; unfold mx; (repeat' split) <;> omega)))
  (try (have hji2m : 0 ≤ ji2 := by omega))
  have hji2_ : (if a0 < 1 then 1 else a0) = ji2 := hji2
  replace H := Option.bind_eq_some_iff.mp H
  obtain ⟨t101, A30, H⟩ := H
  replace H : (some (wrap64 ((ji2) - t101))) = some r := H
  have A3 := Aside0.mk A30
  clear A30
  obtain rfl := Option.some.inj H
  go_enter Try.func15, Try.ntmps15
  go_wp2_with (first | ((with_reducible refine gate_callee (f := 14) rfl ?_); refine goesL_ (some 6) rfl rfl Try.func14 (by kernel_rfl) rfl #[.int .i64 a0] rfl (by (try simp only [List.map_toArray, List.map_cons, List.map_nil]); first | done | rfl | (simp only [List.length_drop, List.length_take]; rfl)) ?_; (with_reducible refine (count_Faults.calls a0 t101 _ A3.out).mono ?_); rintro e w4 ⟨rfl, hb⟩; refine ⟨_, rfl, ?_⟩; have n0_ := Aside0.mk (below_step (by repeat (first | (with_reducible first | exact HB.out | apply below_alloc | apply pw_below_drewN | apply below_drew1) | exact HB.out)) hb); clear HB; have HB := n0_; clear n0_; (try clear hb); (try clear hb2); (try clear hk); (try clear hi)))
  go_ret
  exact ⟨by first | rfl | (simp [errW_none, errW_some] <;> rfl) | (simp only [← hji2]; first | rfl | (simp [errW_none, errW_some] <;> rfl)) | (simp [*, errW_none, errW_some] <;> rfl), by repeat (first | (with_reducible first | exact HB.out | apply below_alloc | apply pw_below_drewN | apply below_drew1) | exact HB.out)⟩

/-! ### count_Weak: function 16 -/
def count_Weak.f (a0 : Int) : Option (Int) := (count_Faults.f a0).bind fun t102 => (some (wrap64 (t102 + 1)))
set_option maxHeartbeats 8000000 in
set_option maxRecDepth 100000 in
theorem count_Weak.calls (a0 : Int) (r : Int) (w : World) (h : count_Weak.f a0 = some r) :
    Calls Try.prog 16 #[.int .i64 a0] w fun e w' => e = .returned (.int .i64 r) ∧ Below w.heap.size w w' := by
  have HB := Aside0.mk (Below.refl w.heap.size w)
  have H : ((count_Faults.f a0).bind fun t102 => (some (wrap64 (t102 + 1)))) = some r := h
  clear h
  replace H := Option.bind_eq_some_iff.mp H
  obtain ⟨t102, A20, H⟩ := H
  replace H : (some (wrap64 (t102 + 1))) = some r := H
  have A2 := Aside0.mk A20
  clear A20
  obtain rfl := Option.some.inj H
  go_enter Try.func16, Try.ntmps16
  go_wp2_with (first | ((with_reducible refine gate_callee (f := 14) rfl ?_); refine goesL_ (some 4) rfl rfl Try.func14 (by kernel_rfl) rfl #[.int .i64 a0] rfl (by (try simp only [List.map_toArray, List.map_cons, List.map_nil]); first | done | rfl | (simp only [List.length_drop, List.length_take]; rfl)) ?_; (with_reducible refine (count_Faults.calls a0 t102 _ A2.out).mono ?_); rintro e w3 ⟨rfl, hb⟩; refine ⟨_, rfl, ?_⟩; have n0_ := Aside0.mk (below_step (by repeat (first | (with_reducible first | exact HB.out | apply below_alloc | apply pw_below_drewN | apply below_drew1) | exact HB.out)) hb); clear HB; have HB := n0_; clear n0_; (try clear hb); (try clear hb2); (try clear hk); (try clear hi)))
  go_ret
  exact ⟨by first | rfl | (simp [errW_none, errW_some] <;> rfl) | (simp [*, errW_none, errW_some] <;> rfl), by repeat (first | (with_reducible first | exact HB.out | apply below_alloc | apply pw_below_drewN | apply below_drew1) | exact HB.out)⟩

/-! ### comitialaw04_awake: function 17 -/
def comitialaw04_awake.f  : Option (Bool) := (count_Quorum.f 4).bind fun t103 => (if t103 = 3 then ((count_Weak.f 4).bind fun t104 => (some (t104 == 2))) else (some false))
set_option maxHeartbeats 8000000 in
set_option maxRecDepth 100000 in
theorem comitialaw04_awake.calls  (r : Bool) (w : World) (h : comitialaw04_awake.f  = some r) :
    Calls Try.prog 17 #[] w fun e w' => e = .returned (.bool r) ∧ Below w.heap.size w w' := by
  have HB := Aside0.mk (Below.refl w.heap.size w)
  have H : ((count_Quorum.f 4).bind fun t103 => (if t103 = 3 then ((count_Weak.f 4).bind fun t104 => (some (t104 == 2))) else (some false))) = some r := h
  clear h
  replace H := Option.bind_eq_some_iff.mp H
  obtain ⟨t103, A10, H⟩ := H
  replace H : (if t103 = 3 then ((count_Weak.f 4).bind fun t104 => (some (t104 == 2))) else (some false)) = some r := H
  have A1 := Aside0.mk A10
  clear A10
  by_cases c2 : t103 = 3
  · rw [if_pos c2] at H
    have c2b0 : (t103 == 3) = true := beq_iff_eq.mpr c2
    have c2b1 : (t103 != 3) = false := bne_eq_false_iff_eq.mpr c2
    clear c2
    replace H := Option.bind_eq_some_iff.mp H
    obtain ⟨t104, A30, H⟩ := H
    replace H : (some (t104 == 2)) = some r := H
    have A3 := Aside0.mk A30
    clear A30
    obtain rfl := Option.some.inj H
    go_enter Try.func17, Try.ntmps17
    go_wp2_with (first | ((with_reducible refine gate_callee (f := 15) rfl ?_); refine goesL_ (some 1) rfl rfl Try.func15 (by kernel_rfl) rfl #[.int .i64 4] rfl (by (try simp only [List.map_toArray, List.map_cons, List.map_nil]); first | done | rfl | (simp only [List.length_drop, List.length_take]; rfl)) ?_; (with_reducible refine (count_Quorum.calls 4 t103 _ A1.out).mono ?_); rintro e w4 ⟨rfl, hb⟩; refine ⟨_, rfl, ?_⟩; have n0_ := Aside0.mk (below_step (by repeat (first | (with_reducible first | exact HB.out | apply below_alloc | apply pw_below_drewN | apply below_drew1) | exact HB.out)) hb); clear HB; have HB := n0_; clear n0_; (try clear hb); (try clear hb2); (try clear hk); (try clear hi)) | (go_at_call 16; (with_reducible refine (count_Weak.calls 4 t104 _ A3.out).mono ?_); rintro e w5 ⟨rfl, hb⟩; have n0_ := Aside0.mk (below_step (by repeat (first | (with_reducible first | exact HB.out | apply below_alloc | apply pw_below_drewN | apply below_drew1) | exact HB.out)) hb); clear HB; have HB := n0_; clear n0_; (try clear hb); (try clear hb2); (try clear hk); (try clear hi)))
    go_ret
    exact ⟨by first | rfl | (simp [errW_none, errW_some] <;> rfl) | (simp [*, errW_none, errW_some] <;> rfl), by repeat (first | (with_reducible first | exact HB.out | apply below_alloc | apply pw_below_drewN | apply below_drew1) | exact HB.out)⟩
  · rw [if_neg c2] at H
    have c2b0 : (t103 == 3) = false := beq_eq_false_iff_ne.mpr c2
    have c2b1 : (t103 != 3) = true := bne_iff_ne.mpr c2
    obtain rfl := Option.some.inj H
    go_enter Try.func17, Try.ntmps17
    go_wp2_with (first | ((with_reducible refine gate_callee (f := 15) rfl ?_); refine goesL_ (some 1) rfl rfl Try.func15 (by kernel_rfl) rfl #[.int .i64 4] rfl (by (try simp only [List.map_toArray, List.map_cons, List.map_nil]); first | done | rfl | (simp only [List.length_drop, List.length_take]; rfl)) ?_; (with_reducible refine (count_Quorum.calls 4 t103 _ A1.out).mono ?_); rintro e w6 ⟨rfl, hb⟩; refine ⟨_, rfl, ?_⟩; have n0_ := Aside0.mk (below_step (by repeat (first | (with_reducible first | exact HB.out | apply below_alloc | apply pw_below_drewN | apply below_drew1) | exact HB.out)) hb); clear HB; have HB := n0_; clear n0_; (try clear hb); (try clear hb2); (try clear hk); (try clear hi)))
    go_ret
    exact ⟨by first | rfl | (simp [errW_none, errW_some] <;> rfl) | (simp [*, errW_none, errW_some] <;> rfl), by repeat (first | (with_reducible first | exact HB.out | apply below_alloc | apply pw_below_drewN | apply below_drew1) | exact HB.out)⟩

/-! ### comitiaref04_Faults3: function 45 -/
def comitiaref04_Faults3.f (a0 : Int) : Option (Int) := if a0 < 1 then (some 0) else (some (wrap64 (Int.tdiv (wrap64 (a0 - 1)) 3)))
set_option maxHeartbeats 8000000 in
set_option maxRecDepth 100000 in
theorem comitiaref04_Faults3.calls (a0 : Int) (r : Int) (w : World) (h : comitiaref04_Faults3.f a0 = some r) :
    Calls Try.prog 45 #[.int .i64 a0] w fun e w' => e = .returned (.int .i64 r) ∧ Drawn0 w w' := by
  have H : (if a0 < 1 then (some 0) else (some (wrap64 (Int.tdiv (wrap64 (a0 - 1)) 3)))) = some r := h
  clear h
  by_cases c2 : a0 < 1
  · rw [if_pos c2] at H
    have c2b0 : decide (a0 < 1) = true := decide_eq_true c2
    clear c2
    obtain rfl := Option.some.inj H
    go_enter Try.func45, Try.ntmps45
    go_wp2
    go_ret
    exact ⟨by first | rfl | (simp; done) | (simp [*]; done), by repeat (first | exact Drawn0.refl _ | apply Drawn0.step)⟩
  · rw [if_neg c2] at H
    have c2b0 : decide (a0 < 1) = false := decide_eq_false c2
    clear c2
    obtain rfl := Option.some.inj H
    go_enter Try.func45, Try.ntmps45
    go_wp2
    go_ret
    exact ⟨by first | rfl | (simp; done) | (simp [*]; done), by repeat (first | exact Drawn0.refl _ | apply Drawn0.step)⟩

/-! ### comitiaref04_Faults: function 18 -/
def comitiaref04_Faults.f (a0 : Int) : Option (Int) := if a0 < 4 then (some 0) else ((comitiaref04_Faults3.f (wrap64 (a0 - 3))).bind fun t105 => (some (wrap64 (1 + t105))))
set_option maxHeartbeats 8000000 in
set_option maxRecDepth 100000 in
theorem comitiaref04_Faults.calls (a0 : Int) (r : Int) (w : World) (h : comitiaref04_Faults.f a0 = some r) :
    Calls Try.prog 18 #[.int .i64 a0] w fun e w' => e = .returned (.int .i64 r) ∧ Drawn0 w w' := by
  have H : (if a0 < 4 then (some 0) else ((comitiaref04_Faults3.f (wrap64 (a0 - 3))).bind fun t105 => (some (wrap64 (1 + t105))))) = some r := h
  clear h
  by_cases c2 : a0 < 4
  · rw [if_pos c2] at H
    have c2b0 : decide (a0 < 4) = true := decide_eq_true c2
    clear c2
    obtain rfl := Option.some.inj H
    go_enter Try.func18, Try.ntmps18
    go_wp2
    go_ret
    exact ⟨by first | rfl | (simp; done) | (simp [*]; done), by repeat (first | exact Drawn0.refl _ | apply Drawn0.step)⟩
  · rw [if_neg c2] at H
    have c2b0 : decide (a0 < 4) = false := decide_eq_false c2
    clear c2
    replace H := Option.bind_eq_some_iff.mp H
    obtain ⟨t105, A30, H⟩ := H
    replace H : (some (wrap64 (1 + t105))) = some r := H
    have A3 := Aside0.mk A30
    clear A30
    obtain rfl := Option.some.inj H
    go_enter Try.func18, Try.ntmps18
    go_wp2_with (first | ((with_reducible refine gate_callee (f := 45) rfl ?_); refine goesL_ (some 7) rfl rfl Try.func45 (by kernel_rfl) rfl #[.int .i64 (wrap64 (a0 - 3))] rfl (by (try simp only [List.map_toArray, List.map_cons, List.map_nil]); first | done | rfl | (simp only [List.length_drop, List.length_take]; rfl)) ?_; (with_reducible refine (comitiaref04_Faults3.calls (wrap64 (a0 - 3)) t105 _ A3.out).mono ?_); rintro e w' ⟨rfl, ⟨nd, rfl⟩⟩; refine ⟨_, rfl, ?_⟩))
    go_ret
    exact ⟨by first | rfl | (simp; done) | (simp [*]; done), by repeat (first | exact Drawn0.refl _ | apply Drawn0.step)⟩

/-! ### comitialaw04_CountSizes: function 3 -/
def comitialaw04_CountSizes.j0 : Nat → Int → Int → Int → Bool → Option (Bool)
  | 0, _, _, _, _ => none
  | k + 1, x0, x3, x4, x33 => if x33 = true then (some false) else (if x0 < 1 then (some true) else (if x0 > 1099511627776 then (some true) else (if (wrap64 ((wrap64 (2 * x4)) - x0)) > x3 then (if x0 ≥ (wrap64 ((wrap64 (3 * x3)) + 1)) then (some (decide (x0 < (wrap64 ((wrap64 (3 * x3)) + 4))))) else (some false)) else (some false))))
def comitialaw04_CountSizes.f (k : Nat) (a0 : Int) : Option (Bool) := (count_Faults.f a0).bind fun t106 => ((count_Quorum.f a0).bind fun t107 => ((count_Weak.f a0).bind fun t108 => ((comitialaw04_awake.f).bind fun t109 => (if t109 = true then ((comitiaref04_Faults.f a0).bind fun t110 => (if t106 = t110 then (if t107 = (wrap64 ((mx a0 1) - t106)) then (comitialaw04_CountSizes.j0 k a0 t106 t107 (t108 != (wrap64 (t106 + 1)))) else (comitialaw04_CountSizes.j0 k a0 t106 t107 true)) else (comitialaw04_CountSizes.j0 k a0 t106 t107 true))) else (comitialaw04_CountSizes.j0 k a0 t106 t107 true)))))
theorem comitialaw04_CountSizes.mono_l : ∀ k, (∀ y0 y1 y2 y3, LeO (comitialaw04_CountSizes.j0 k y0 y1 y2 y3) (comitialaw04_CountSizes.j0 (k + 1) y0 y1 y2 y3))
  | 0 => fun _ _ _ _ r h => by simp [comitialaw04_CountSizes.j0] at h
  | k + 1 => by
    have ih0 := comitialaw04_CountSizes.mono_l k
    · intro y0 y1 y2 y3
      unfold comitialaw04_CountSizes.j0
      repeat' first
      | (with_reducible exact ih0 _ _ _ _)
      | (with_reducible exact LeO.refl _)
      | (with_reducible exact LeO.none _)
      | (with_reducible refine LeO.ite ?_ ?_)
      | (with_reducible refine LeO.bind ?_ (fun _ => ?_))
      | exact ih0 _ _ _ _
      | exact LeO.none _
      | refine LeO.ite ?_ ?_
      | refine LeO.bind ?_ (fun _ => ?_)
theorem comitialaw04_CountSizes.mono : ∀ a0 k, LeO (comitialaw04_CountSizes.f k a0) (comitialaw04_CountSizes.f (k + 1) a0) := by
  intro a0 k
  have ih0 := comitialaw04_CountSizes.mono_l k
  unfold comitialaw04_CountSizes.f
  repeat' first
      | (with_reducible exact ih0 _ _ _ _)
      | (with_reducible exact LeO.refl _)
      | (with_reducible exact LeO.none _)
      | (with_reducible refine LeO.ite ?_ ?_)
      | (with_reducible refine LeO.bind ?_ (fun _ => ?_))
      | exact ih0 _ _ _ _
      | exact LeO.none _
      | refine LeO.ite ?_ ?_
      | refine LeO.bind ?_ (fun _ => ?_)
set_option maxHeartbeats 8000000 in
set_option maxRecDepth 100000 in
theorem comitialaw04_CountSizes.calls (k : Nat) (a0 : Int) (r : Bool) (w : World) (h : comitialaw04_CountSizes.f k a0 = some r) :
    Calls Try.prog 3 #[.int .i64 a0] w fun e w' => e = .returned (.bool r) ∧ Below w.heap.size w w' := by
  have HB := Aside0.mk (Below.refl w.heap.size w)
  have H : ((count_Faults.f a0).bind fun t106 => ((count_Quorum.f a0).bind fun t107 => ((count_Weak.f a0).bind fun t108 => ((comitialaw04_awake.f).bind fun t109 => (if t109 = true then ((comitiaref04_Faults.f a0).bind fun t110 => (if t106 = t110 then (if t107 = (wrap64 ((mx a0 1) - t106)) then (comitialaw04_CountSizes.j0 k a0 t106 t107 (t108 != (wrap64 (t106 + 1)))) else (comitialaw04_CountSizes.j0 k a0 t106 t107 true)) else (comitialaw04_CountSizes.j0 k a0 t106 t107 true))) else (comitialaw04_CountSizes.j0 k a0 t106 t107 true)))))) = some r := h
  clear h
  replace H := Option.bind_eq_some_iff.mp H
  obtain ⟨t106, A20, H⟩ := H
  replace H : ((count_Quorum.f a0).bind fun t107 => ((count_Weak.f a0).bind fun t108 => ((comitialaw04_awake.f).bind fun t109 => (if t109 = true then ((comitiaref04_Faults.f a0).bind fun t110 => (if t106 = t110 then (if t107 = (wrap64 ((mx a0 1) - t106)) then (comitialaw04_CountSizes.j0 k a0 t106 t107 (t108 != (wrap64 (t106 + 1)))) else (comitialaw04_CountSizes.j0 k a0 t106 t107 true)) else (comitialaw04_CountSizes.j0 k a0 t106 t107 true))) else (comitialaw04_CountSizes.j0 k a0 t106 t107 true))))) = some r := H
  have A2 := Aside0.mk A20
  clear A20
  replace H := Option.bind_eq_some_iff.mp H
  obtain ⟨t107, A30, H⟩ := H
  replace H : ((count_Weak.f a0).bind fun t108 => ((comitialaw04_awake.f).bind fun t109 => (if t109 = true then ((comitiaref04_Faults.f a0).bind fun t110 => (if t106 = t110 then (if t107 = (wrap64 ((mx a0 1) - t106)) then (comitialaw04_CountSizes.j0 k a0 t106 t107 (t108 != (wrap64 (t106 + 1)))) else (comitialaw04_CountSizes.j0 k a0 t106 t107 true)) else (comitialaw04_CountSizes.j0 k a0 t106 t107 true))) else (comitialaw04_CountSizes.j0 k a0 t106 t107 true)))) = some r := H
  have A3 := Aside0.mk A30
  clear A30
  replace H := Option.bind_eq_some_iff.mp H
  obtain ⟨t108, A40, H⟩ := H
  replace H : ((comitialaw04_awake.f).bind fun t109 => (if t109 = true then ((comitiaref04_Faults.f a0).bind fun t110 => (if t106 = t110 then (if t107 = (wrap64 ((mx a0 1) - t106)) then (comitialaw04_CountSizes.j0 k a0 t106 t107 (t108 != (wrap64 (t106 + 1)))) else (comitialaw04_CountSizes.j0 k a0 t106 t107 true)) else (comitialaw04_CountSizes.j0 k a0 t106 t107 true))) else (comitialaw04_CountSizes.j0 k a0 t106 t107 true))) = some r := H
  have A4 := Aside0.mk A40
  clear A40
  have HC5 := Aside0.mk H
  clear H
  go_enter Try.func3, Try.ntmps3
  go_upto_region 2 with (first | ((with_reducible refine gate_callee (f := 14) rfl ?_); refine goesL_ (some 7) rfl rfl Try.func14 (by kernel_rfl) rfl #[.int .i64 a0] rfl (by (try simp only [List.map_toArray, List.map_cons, List.map_nil]); first | done | rfl | (simp only [List.length_drop, List.length_take]; rfl)) ?_; (with_reducible refine (count_Faults.calls a0 t106 _ A2.out).mono ?_); rintro e w6 ⟨rfl, hb⟩; refine ⟨_, rfl, ?_⟩; have n0_ := Aside0.mk (below_step (by repeat (first | (with_reducible first | exact HB.out | apply below_alloc | apply pw_below_drewN | apply below_drew1) | exact HB.out)) hb); clear HB; have HB := n0_; clear n0_; (try clear hb); (try clear hb2); (try clear hk); (try clear hi)) | ((with_reducible refine gate_callee (f := 15) rfl ?_); refine goesL_ (some 9) rfl rfl Try.func15 (by kernel_rfl) rfl #[.int .i64 a0] rfl (by (try simp only [List.map_toArray, List.map_cons, List.map_nil]); first | done | rfl | (simp only [List.length_drop, List.length_take]; rfl)) ?_; (with_reducible refine (count_Quorum.calls a0 t107 _ A3.out).mono ?_); rintro e w7 ⟨rfl, hb⟩; refine ⟨_, rfl, ?_⟩; have n0_ := Aside0.mk (below_step (by repeat (first | (with_reducible first | exact HB.out | apply below_alloc | apply pw_below_drewN | apply below_drew1) | exact HB.out)) hb); clear HB; have HB := n0_; clear n0_; (try clear hb); (try clear hb2); (try clear hk); (try clear hi)) | ((with_reducible refine gate_callee (f := 16) rfl ?_); refine goesL_ (some 11) rfl rfl Try.func16 (by kernel_rfl) rfl #[.int .i64 a0] rfl (by (try simp only [List.map_toArray, List.map_cons, List.map_nil]); first | done | rfl | (simp only [List.length_drop, List.length_take]; rfl)) ?_; (with_reducible refine (count_Weak.calls a0 t108 _ A4.out).mono ?_); rintro e w8 ⟨rfl, hb⟩; refine ⟨_, rfl, ?_⟩; have n0_ := Aside0.mk (below_step (by repeat (first | (with_reducible first | exact HB.out | apply below_alloc | apply pw_below_drewN | apply below_drew1) | exact HB.out)) hb); clear HB; have HB := n0_; clear n0_; (try clear hb); (try clear hb2); (try clear hk); (try clear hi)))
  (try simp only [Act.put, List.setIfInBounds_toArray, List.set_cons_zero, List.set_cons_succ])
  go_cut [33] (fun v33 wc => ∃ (kq : Nat) (x33_4 : Bool), v33 = .bool x33_4 ∧ Aside0 (comitialaw04_CountSizes.j0 kq a0 t106 t107 x33_4 = some r) ∧ Aside0 (kq ≤ k) ∧ Aside0 (Below w.heap.size w wc))
  case first =>
    have H := HC5.out
    clear HC5
    replace H := Option.bind_eq_some_iff.mp H
    obtain ⟨t109, A90, H⟩ := H
    replace H : (if t109 = true then ((comitiaref04_Faults.f a0).bind fun t110 => (if t106 = t110 then (if t107 = (wrap64 ((mx a0 1) - t106)) then (comitialaw04_CountSizes.j0 k a0 t106 t107 (t108 != (wrap64 (t106 + 1)))) else (comitialaw04_CountSizes.j0 k a0 t106 t107 true)) else (comitialaw04_CountSizes.j0 k a0 t106 t107 true))) else (comitialaw04_CountSizes.j0 k a0 t106 t107 true)) = some r := H
    have A9 := Aside0.mk A90
    clear A90
    by_cases c10 : t109 = true
    · subst c10
      have H1 : ((comitiaref04_Faults.f a0).bind fun t110 => (if t106 = t110 then (if t107 = (wrap64 ((mx a0 1) - t106)) then (comitialaw04_CountSizes.j0 k a0 t106 t107 (t108 != (wrap64 (t106 + 1)))) else (comitialaw04_CountSizes.j0 k a0 t106 t107 true)) else (comitialaw04_CountSizes.j0 k a0 t106 t107 true))) = some r := by rw [if_pos rfl] at H; exact H
      clear H
      have H := H1
      clear H1
      replace H := Option.bind_eq_some_iff.mp H
      obtain ⟨t110, A110, H⟩ := H
      replace H : (if t106 = t110 then (if t107 = (wrap64 ((mx a0 1) - t106)) then (comitialaw04_CountSizes.j0 k a0 t106 t107 (t108 != (wrap64 (t106 + 1)))) else (comitialaw04_CountSizes.j0 k a0 t106 t107 true)) else (comitialaw04_CountSizes.j0 k a0 t106 t107 true)) = some r := H
      have A11 := Aside0.mk A110
      clear A110
      by_cases c12 : t106 = t110
      · rw [if_pos c12] at H
        have c12b0 : (t106 == t110) = true := beq_iff_eq.mpr c12
        have c12b1 : (t106 != t110) = false := bne_eq_false_iff_eq.mpr c12
        clear c12
        (first | rw [c12b0] | (simp only [i64_w, i32_w]; rw [c12b0]) | skip)
        obtain ⟨ji13, hji13⟩ : ∃ j_ : Int, (mx a0 1) = j_ := ⟨_, rfl⟩
        replace H : (if t107 = (wrap64 ((ji13) - t106)) then (comitialaw04_CountSizes.j0 k a0 t106 t107 (t108 != (wrap64 (t106 + 1)))) else (comitialaw04_CountSizes.j0 k a0 t106 t107 true)) = some r := by first | (rw [hji13] at H; exact H) | (simp only [hji13] at H ⊢; exact H)
        (try rw [hji13] at A9)
        (try rw [hji13] at A11)
        (try (have hji13l : 1 ≤ ji13 := by (rw [← hji13]; unfold mx; (repeat' split) <;> omega)))
        (try (have hji13m : 0 ≤ ji13 := by omega))
        have hji13_ : (if a0 < 1 then 1 else a0) = ji13 := hji13
        by_cases c14 : t107 = (wrap64 ((ji13) - t106))
        · rw [if_pos c14] at H
          have c14b0 : (t107 == (wrap64 ((ji13) - t106))) = true := beq_iff_eq.mpr c14
          have c14b1 : (t107 != (wrap64 ((ji13) - t106))) = false := bne_eq_false_iff_eq.mpr c14
          clear c14
          have H' := Aside0.mk H
          clear H
          go_wp2_with (first | ((with_reducible refine gate_callee (f := 17) rfl ?_); refine goesL_ (some 12) rfl rfl Try.func17 (by kernel_rfl) rfl #[] rfl (by (try simp only [List.map_toArray, List.map_cons, List.map_nil]); first | done | rfl | (simp only [List.length_drop, List.length_take]; rfl)) ?_; (with_reducible refine (comitialaw04_awake.calls  true _ A9.out).mono ?_); rintro e w15 ⟨rfl, hb⟩; refine ⟨_, rfl, ?_⟩; have n0_ := Aside0.mk (below_step (by repeat (first | (with_reducible first | exact HB.out | apply below_alloc | apply pw_below_drewN | apply below_drew1) | exact HB.out)) hb); clear HB; have HB := n0_; clear n0_; (try clear hb); (try clear hb2); (try clear hk); (try clear hi)) | (go_at_call 18; (with_reducible refine (comitiaref04_Faults.calls a0 t110 _ A11.out).mono ?_); rintro e w' ⟨rfl, ⟨nd, rfl⟩⟩))
          go_meet
          case rel => exact ⟨_, ((t108 != (wrap64 (t106 + 1)))), (by first | rfl | (simp; done) | (simp [*]; done)), H', ⟨by first | omega | exact Nat.le_refl _⟩, ⟨by repeat (first | (with_reducible first | exact HB.out | apply below_alloc | apply pw_below_drewN | apply below_drew1) | exact HB.out)⟩⟩
        · rw [if_neg c14] at H
          have c14b0 : (t107 == (wrap64 ((ji13) - t106))) = false := beq_eq_false_iff_ne.mpr c14
          have c14b1 : (t107 != (wrap64 ((ji13) - t106))) = true := bne_iff_ne.mpr c14
          have H' := Aside0.mk H
          clear H
          go_wp2_with (first | ((with_reducible refine gate_callee (f := 17) rfl ?_); refine goesL_ (some 12) rfl rfl Try.func17 (by kernel_rfl) rfl #[] rfl (by (try simp only [List.map_toArray, List.map_cons, List.map_nil]); first | done | rfl | (simp only [List.length_drop, List.length_take]; rfl)) ?_; (with_reducible refine (comitialaw04_awake.calls  true _ A9.out).mono ?_); rintro e w16 ⟨rfl, hb⟩; refine ⟨_, rfl, ?_⟩; have n0_ := Aside0.mk (below_step (by repeat (first | (with_reducible first | exact HB.out | apply below_alloc | apply pw_below_drewN | apply below_drew1) | exact HB.out)) hb); clear HB; have HB := n0_; clear n0_; (try clear hb); (try clear hb2); (try clear hk); (try clear hi)) | (go_at_call 18; (with_reducible refine (comitiaref04_Faults.calls a0 t110 _ A11.out).mono ?_); rintro e w' ⟨rfl, ⟨nd, rfl⟩⟩))
          go_meet
          case rel => exact ⟨_, (true), (by first | rfl | (simp; done) | (simp [*]; done)), H', ⟨by first | omega | exact Nat.le_refl _⟩, ⟨by repeat (first | (with_reducible first | exact HB.out | apply below_alloc | apply pw_below_drewN | apply below_drew1) | exact HB.out)⟩⟩
      · rw [if_neg c12] at H
        have c12b0 : (t106 == t110) = false := beq_eq_false_iff_ne.mpr c12
        have c12b1 : (t106 != t110) = true := bne_iff_ne.mpr c12
        (first | rw [c12b0] | (simp only [i64_w, i32_w]; rw [c12b0]) | skip)
        have H' := Aside0.mk H
        clear H
        go_wp2_with (first | ((with_reducible refine gate_callee (f := 17) rfl ?_); refine goesL_ (some 12) rfl rfl Try.func17 (by kernel_rfl) rfl #[] rfl (by (try simp only [List.map_toArray, List.map_cons, List.map_nil]); first | done | rfl | (simp only [List.length_drop, List.length_take]; rfl)) ?_; (with_reducible refine (comitialaw04_awake.calls  true _ A9.out).mono ?_); rintro e w17 ⟨rfl, hb⟩; refine ⟨_, rfl, ?_⟩; have n0_ := Aside0.mk (below_step (by repeat (first | (with_reducible first | exact HB.out | apply below_alloc | apply pw_below_drewN | apply below_drew1) | exact HB.out)) hb); clear HB; have HB := n0_; clear n0_; (try clear hb); (try clear hb2); (try clear hk); (try clear hi)) | (go_at_call 18; (with_reducible refine (comitiaref04_Faults.calls a0 t110 _ A11.out).mono ?_); rintro e w' ⟨rfl, ⟨nd, rfl⟩⟩))
        go_meet
        case rel => exact ⟨_, (true), (by first | rfl | (simp; done) | (simp [*]; done)), H', ⟨by first | omega | exact Nat.le_refl _⟩, ⟨by repeat (first | (with_reducible first | exact HB.out | apply below_alloc | apply pw_below_drewN | apply below_drew1) | exact HB.out)⟩⟩
    · replace c10 := Bool.eq_false_iff.mpr c10
      subst c10
      have H1 : (comitialaw04_CountSizes.j0 k a0 t106 t107 true) = some r := by rw [if_neg (show ¬ (false = true) by decide)] at H; exact H
      clear H
      have H := H1
      clear H1
      have H' := Aside0.mk H
      clear H
      go_wp2_with (first | ((with_reducible refine gate_callee (f := 17) rfl ?_); refine goesL_ (some 12) rfl rfl Try.func17 (by kernel_rfl) rfl #[] rfl (by (try simp only [List.map_toArray, List.map_cons, List.map_nil]); first | done | rfl | (simp only [List.length_drop, List.length_take]; rfl)) ?_; (with_reducible refine (comitialaw04_awake.calls  false _ A9.out).mono ?_); rintro e w18 ⟨rfl, hb⟩; refine ⟨_, rfl, ?_⟩; have n0_ := Aside0.mk (below_step (by repeat (first | (with_reducible first | exact HB.out | apply below_alloc | apply pw_below_drewN | apply below_drew1) | exact HB.out)) hb); clear HB; have HB := n0_; clear n0_; (try clear hb); (try clear hb2); (try clear hk); (try clear hi)))
      go_meet
      case rel => exact ⟨_, (true), (by first | rfl | (simp; done) | (simp [*]; done)), H', ⟨by first | omega | exact Nat.le_refl _⟩, ⟨by repeat (first | (with_reducible first | exact HB.out | apply below_alloc | apply pw_below_drewN | apply below_drew1) | exact HB.out)⟩⟩
  case rest =>
    clear HC5
    try clear c1
    try clear p2
    try clear c3
    try clear p6
    try clear c10
    try clear c12
    try clear c12b0
    try clear c12b1
    try clear c14
    try clear c14b0
    try clear c14b1
    try clear c15
    try clear c16
    try clear c17
    obtain ⟨kq, x33_4, rfl, HA, HJ4, HB⟩ := hcut
    cases kq with
    | zero => exact absurd HA.out (by simp [comitialaw04_CountSizes.j0])
    | succ kj4 =>
      have H := HA.out
      clear HA
      simp only [comitialaw04_CountSizes.j0] at H
      by_cases c19 : x33_4 = true
      · subst c19
        have H1 : (some false) = some r := by rw [if_pos rfl] at H; exact H
        clear H
        have H := H1
        clear H1
        obtain rfl := Option.some.inj H
        go_wp2
        go_ret
        exact ⟨by first | rfl | (simp [errW_none, errW_some] <;> rfl) | (simp [*, errW_none, errW_some] <;> rfl), by repeat (first | (with_reducible first | exact HB.out | apply below_alloc | apply pw_below_drewN | apply below_drew1) | exact HB.out)⟩
      · replace c19 := Bool.eq_false_iff.mpr c19
        subst c19
        have H1 : (if a0 < 1 then (some true) else (if a0 > 1099511627776 then (some true) else (if (wrap64 ((wrap64 (2 * t107)) - a0)) > t106 then (if a0 ≥ (wrap64 ((wrap64 (3 * t106)) + 1)) then (some (decide (a0 < (wrap64 ((wrap64 (3 * t106)) + 4))))) else (some false)) else (some false)))) = some r := by rw [if_neg (show ¬ (false = true) by decide)] at H; exact H
        clear H
        have H := H1
        clear H1
        by_cases c20 : a0 < 1
        · rw [if_pos c20] at H
          have c20b0 : decide (a0 < 1) = true := decide_eq_true c20
          clear c20
          obtain rfl := Option.some.inj H
          go_wp2
          go_ret
          exact ⟨by first | rfl | (simp [errW_none, errW_some] <;> rfl) | (simp [*, errW_none, errW_some] <;> rfl), by repeat (first | (with_reducible first | exact HB.out | apply below_alloc | apply pw_below_drewN | apply below_drew1) | exact HB.out)⟩
        · rw [if_neg c20] at H
          have c20b0 : decide (a0 < 1) = false := decide_eq_false c20
          clear c20
          by_cases c21 : a0 > 1099511627776
          · rw [if_pos c21] at H
            have c21b0 : decide (1099511627776 < a0) = true := decide_eq_true c21
            clear c21
            obtain rfl := Option.some.inj H
            go_wp2
            go_ret
            exact ⟨by first | rfl | (simp [errW_none, errW_some] <;> rfl) | (simp [*, errW_none, errW_some] <;> rfl), by repeat (first | (with_reducible first | exact HB.out | apply below_alloc | apply pw_below_drewN | apply below_drew1) | exact HB.out)⟩
          · rw [if_neg c21] at H
            have c21b0 : decide (1099511627776 < a0) = false := decide_eq_false c21
            clear c21
            by_cases c22 : (wrap64 ((wrap64 (2 * t107)) - a0)) > t106
            · rw [if_pos c22] at H
              have c22b0 : decide (t106 < (wrap64 ((wrap64 (2 * t107)) - a0))) = true := decide_eq_true c22
              clear c22
              by_cases c23 : a0 ≥ (wrap64 ((wrap64 (3 * t106)) + 1))
              · rw [if_pos c23] at H
                have c23b0 : decide ((wrap64 ((wrap64 (3 * t106)) + 1)) ≤ a0) = true := decide_eq_true c23
                clear c23
                obtain rfl := Option.some.inj H
                go_wp2
                go_ret
                exact ⟨by first | rfl | (simp [errW_none, errW_some] <;> rfl) | (simp [*, errW_none, errW_some] <;> rfl), by repeat (first | (with_reducible first | exact HB.out | apply below_alloc | apply pw_below_drewN | apply below_drew1) | exact HB.out)⟩
              · rw [if_neg c23] at H
                have c23b0 : decide ((wrap64 ((wrap64 (3 * t106)) + 1)) ≤ a0) = false := decide_eq_false c23
                clear c23
                obtain rfl := Option.some.inj H
                go_wp2
                go_ret
                exact ⟨by first | rfl | (simp [errW_none, errW_some] <;> rfl) | (simp [*, errW_none, errW_some] <;> rfl), by repeat (first | (with_reducible first | exact HB.out | apply below_alloc | apply pw_below_drewN | apply below_drew1) | exact HB.out)⟩
            · rw [if_neg c22] at H
              have c22b0 : decide (t106 < (wrap64 ((wrap64 (2 * t107)) - a0))) = false := decide_eq_false c22
              clear c22
              obtain rfl := Option.some.inj H
              go_wp2
              go_ret
              exact ⟨by first | rfl | (simp [errW_none, errW_some] <;> rfl) | (simp [*, errW_none, errW_some] <;> rfl), by repeat (first | (with_reducible first | exact HB.out | apply below_alloc | apply pw_below_drewN | apply below_drew1) | exact HB.out)⟩

/-- THE ONE PURE STATEMENT of comitialaw04_CountSizes: yours. -/
def comitialaw04_CountSizes.Pure : Prop := ∀ (a0 : Int), (Lit.int .i64 a0).wf = true → ∃ k, comitialaw04_CountSizes.f k a0 = some true
theorem comitialaw04_CountSizes.walk (P : comitialaw04_CountSizes.Pure) (a0 : Int) (w : World) (w0 : (Lit.int .i64 a0).wf = true) :
    Calls Try.prog 3 #[.int .i64 a0] w fun e w' => e = .returned (.bool true) ∧ Below w.heap.size w w' := by
  obtain ⟨k, h⟩ := P a0 w0
  refine (comitialaw04_CountSizes.calls k a0 true w h).mono ?_
  rintro e w' ⟨rfl, hd⟩
  exact ⟨rfl, hd⟩

end Go.Proofs.Ytjpjphdcpdjlkaa.PCountSizes
