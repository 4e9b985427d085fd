/- Views that nodes told: New, Put, At, In: walked. -/
import Derived.Test.YtgleoeiiiadanaaCnt
import Derived.Test.YtgleoeiiiadanaaMv
import Derived.Laws.OwnMore
import Derived.OwnWalk
import Derived.LoopTactic
import Derived.Deep.LoopGhost
set_option linter.unusedVariables false
set_option linter.unusedSimpArgs false
namespace Go.Proofs.Ytgleoeiiiadanaa.Gat
open Go.RowKit Rd Api Own Mv Top

/-- a gathering in a world -/
structure Gth (g b n : Nat) (vs : List Int) (W : World) : Prop where
  len : vs.length = n
  small : n ≤ 1000
  blk : W.heap[g]? = some (.cells #[.slice (some ⟨b, 0, none⟩) n n] 82 (0, 0))
  own : W.ownsRow 0 3 1 (.slice (some ⟨b, 0, none⟩) n n) n (vs.map (Value.int .i64))
section
variable {g b n : Nat} {vs : List Int} {W W1 : World}
theorem Gth.below (h : Gth g b n vs W) (hb : Below W.heap.size W W1) : Gth g b n vs W1 :=
  ⟨h.len, h.small, blk_keep h.blk hb, h.own.kept (row := none) ⟨hb.os, hb.tape, hb.output, hb.size, fun k hk _ => hb.block k hk⟩ (by simp [Value.ownBlock])⟩
theorem Gth.cell (h : Gth g b n vs W) {j : Nat} {x : Int} (hx : vs[j]? = some x) : W.cell? ⟨b, j, none⟩ = some (.int .i64 x) := by
  have hj : j < n := by
    rw [← h.len]
    rcases Nat.lt_or_ge j vs.length with h | h
    · exact h
    · rw [List.getElem?_eq_none h] at hx; cases hx
  rw [h.own.cellAt j (by omega), List.getElem?_map, hx]
  rfl
theorem Gth.blk2 (h : Gth g b n vs W) : ∃ cur, W.heap[b]? = some (.cells cur 3 (0, 0)) := by
  rcases h.own.2 with ⟨h1, _⟩ | ⟨g', cap, cur, h1, _, hh, _⟩
  · simp at h1
  · simp only [Value.slice.injEq, Option.some.injEq, Addr.mk.injEq] at h1
    obtain ⟨⟨rfl, -⟩, -⟩ := h1
    exact ⟨cur, hh⟩
theorem Gth.ne (h : Gth g b n vs W) : b ≠ g := by
  obtain ⟨cur, hc⟩ := h.blk2
  rintro rfl
  rw [h.blk] at hc
  have := (Obj.cells.inj (Option.some.inj hc)).2.1
  exact absurd this (by decide)
theorem Gth.lt (h : Gth g b n vs W) : b < W.heap.size ∧ g < W.heap.size := by
  obtain ⟨cur, hc⟩ := h.blk2
  exact ⟨blk_lt' hc, blk_lt' h.blk⟩
theorem Gth.store (h : Gth g b n vs W) (j : Nat) (x : Int) : Gth g b n (vs.set j x) (W.setCell ⟨b, j, none⟩ (.int .i64 x)) ∧ W.grownBy (W.setCell ⟨b, j, none⟩ (.int .i64 x)) (some b) := by
  have h1 := h.own.stored j (.int .i64 x)
  refine ⟨⟨by simpa using h.len, h.small, (heap_set _ _ _ _ _ h.ne.symm).trans h.blk, ?_⟩, h1.2⟩
  rw [List.map_set]
  exact h1.1
theorem grown_refl (W : World) (r : Option Nat) : W.grownBy W r := ⟨rfl, rfl, rfl, Nat.le_refl _, fun _ _ _ => rfl⟩
theorem Gth.sl (h : Gth g b n vs W) : Sl (num .i64) W (some ⟨b, 0, none⟩) n vs :=
  ⟨by rw [h.len]; omega, by have := h.small; omega, fun j x hx => ⟨b, 0, _, rfl, rfl, fun i v hv => by
    rcases i with _ | i
    · simp at hv
      subst hv
      have := h.cell hx
      simpa [num] using this
    · simp at hv⟩⟩

set_option maxHeartbeats 4000000 in
set_option maxRecDepth 100000 in
theorem put_any (h : Gth g b n vs W) (hn : 1 ≤ n) (f v : Int) (hf : IsI64 f) (hv : IsI64 v) (r : Bool) (hr : r = true ↔ Takes vs ⟨f, v⟩) :
    Calls Try.prog 24 #[.pointer (some ⟨g, 0, none⟩), .int .i64 f, .int .i64 v] W fun e w' => e = .returned (.bool r) ∧ Gth g b n (gput vs ⟨f, v⟩) w' ∧ W.grownBy w' (some b) := by
  have no : ¬ Takes vs ⟨f, v⟩ → r = false ∧ gput vs ⟨f, v⟩ = vs := fun k => ⟨by
    cases r with
    | false => rfl
    | true => exact absurd (hr.1 rfl) k, by unfold gput; rw [if_neg k]⟩
  have g0 := blk_at h.blk 0 _ rfl
  have H := Sd.mk h
  have hln := h.len
  have hsm := h.small
  by_cases h0 : f < 0
  · obtain ⟨rfl, e⟩ := no (fun k => by have := k.1; simp only at this; omega)
    have d0 : decide (f < 0) = true := decide_eq_true h0
    have HE := Sd.mk e
    clear hr h e no h0
    go_enter Try.func24, Try.ntmps24
    go_wp2
    go_ret
    exact ⟨rfl, by rw [HE.out]; exact H.out, grown_refl _ _⟩
  · have d0 : decide (f < 0) = false := decide_eq_false h0
    by_cases h1 : (n : Int) ≤ f
    · obtain ⟨rfl, e⟩ := no (fun k => by have := k.2.1; simp only at this; omega)
      have d1 : decide ((n : Int) ≤ f) = true := decide_eq_true h1
      have HE := Sd.mk e
      clear hr h e no h0 h1
      go_enter Try.func24, Try.ntmps24
      go_wp2
      go_ret
      exact ⟨rfl, by rw [HE.out]; exact H.out, grown_refl _ _⟩
    · obtain ⟨j, rfl⟩ : ∃ j : Nat, f = (j : Int) := ⟨f.toNat, by omega⟩
      have d1 : decide ((n : Int) ≤ (j : Int)) = false := decide_eq_false h1
      have d1b : decide (n ≤ j) = false := decide_eq_false (by omega)
      have hj : j < n := by omega
      have hji : (j : Int) < n := by omega
      obtain ⟨x, hx⟩ : ∃ x, vs[j]? = some x := ⟨vs[j], List.getElem?_eq_getElem (by omega)⟩
      have c0 := h.cell hx
      have HX := Sd.mk hx
      by_cases h2 : 1000000 < v
      · obtain ⟨rfl, e⟩ := no (fun k => by have := k.2.2.1; simp only at this; omega)
        have d2 : decide (1000000 < v) = true := decide_eq_true h2
        have HE := Sd.mk e
        clear hr h e no h0 h1 h2 hx
        go_enter Try.func24, Try.ntmps24
        go_wp2
        go_ret
        exact ⟨rfl, by rw [HE.out]; exact H.out, grown_refl _ _⟩
      · have d2 : decide (1000000 < v) = false := decide_eq_false h2
        by_cases h3 : v ≤ x
        · obtain ⟨rfl, e⟩ := no (fun k => by
            obtain ⟨y, hy, hlt⟩ := k.2.2.2
            simp only [Int.toNat_natCast] at hy hlt
            rw [hx] at hy; cases hy; omega)
          have d3 : decide (v ≤ x) = true := decide_eq_true h3
          have HE := Sd.mk e
          clear hr h e no h0 h1 h2 hx h3
          go_enter Try.func24, Try.ntmps24
          go_wp2
          go_ret
          exact ⟨rfl, by rw [HE.out]; exact H.out, grown_refl _ _⟩
        · have d3 : decide (v ≤ x) = false := decide_eq_false h3
          have ht : Takes vs ⟨(j : Int), v⟩ := ⟨by simp only; omega, by simp only; omega, by simp only; omega, x, by simp only [Int.toNat_natCast]; exact hx, by simp only; omega⟩
          obtain rfl := hr.2 ht
          have HE := Sd.mk (show gput vs ⟨(j : Int), v⟩ = vs.set j v by unfold gput; rw [if_pos ht]; simp only [Int.toNat_natCast])
          have f0 := h.own.frozenAt j
          have HS := Sd.mk (h.store j v)
          clear hr h no h0 h1 h2 hx h3 ht
          go_enter Try.func24, Try.ntmps24
          go_wp2
          go_ret
          exact ⟨rfl, by rw [HE.out]; exact HS.out.1, HS.out.2⟩
set_option maxHeartbeats 4000000 in
set_option maxRecDepth 100000 in
theorem at_any (h : Gth g b n vs W) (f : Int) (hf : IsI64 f) (x : Int) (hx : atV vs f = x) :
    Calls Try.prog 27 #[.pointer (some ⟨g, 0, none⟩), .int .i64 f] W fun e w' => e = .returned (.int .i64 x) ∧ w' = W := by
  have g0 := blk_at h.blk 0 _ rfl
  have hln := h.len
  have hsm := h.small
  by_cases h0 : f < 0
  · obtain rfl : x = 0 := by rw [← hx]; unfold atV; rw [if_neg (by omega)]
    have d0 : decide (f < 0) = true := decide_eq_true h0
    clear hx h h0
    go_enter Try.func27, Try.ntmps27
    go_wp2
    go_ret
    exact ⟨rfl, rfl⟩
  · have d0 : decide (f < 0) = false := decide_eq_false h0
    by_cases h1 : (n : Int) ≤ f
    · obtain rfl : x = 0 := by rw [← hx]; unfold atV; rw [if_neg (by omega)]
      have d1 : decide ((n : Int) ≤ f) = true := decide_eq_true h1
      clear hx h h0 h1
      go_enter Try.func27, Try.ntmps27
      go_wp2
      go_ret
      exact ⟨rfl, rfl⟩
    · obtain ⟨j, rfl⟩ : ∃ j : Nat, f = (j : Int) := ⟨f.toNat, by omega⟩
      have d1 : decide ((n : Int) ≤ (j : Int)) = false := decide_eq_false h1
      have d1b : decide (n ≤ j) = false := decide_eq_false (by omega)
      have hj : j < n := by omega
      have hji : (j : Int) < n := by omega
      have hq : vs[j]? = some x := by
        unfold atV at hx
        rw [if_pos (by omega), Int.toNat_natCast, List.getD_eq_getElem?_getD, List.getElem?_eq_getElem (by omega)] at hx
        rw [List.getElem?_eq_getElem (by omega)]
        exact congrArg some hx
      have c0 := h.cell hq
      clear hx h h0 h1 hq
      go_enter Try.func27, Try.ntmps27
      go_wp2
      go_ret
      exact ⟨rfl, rfl⟩
theorem inn_le (v : Int) (l : List Int) : inn v l ≤ l.length := List.countP_le_length
theorem inn_take {l : List Int} {i : Nat} {x v : Int} (hx : l[i]? = some x) : inn v (l.take (i + 1)) = inn v (l.take i) + if x = v then 1 else 0 := by
  obtain ⟨hi, rfl⟩ := List.getElem?_eq_some_iff.1 hx
  rw [← List.take_append_getElem hi, inn_snoc]
set_option maxHeartbeats 4000000 in
set_option maxRecDepth 100000 in
theorem in_any (h : Gth g b n vs W) (v : Int) (q : Nat) (hq : inn v vs = q) :
    Calls Try.prog 30 #[.pointer (some ⟨g, 0, none⟩), .int .i64 v] W fun e w' => e = .returned (.int .i64 (q : Nat)) ∧ w' = W := by
  have g0 := blk_at h.blk 0 _ rfl
  have H := Sd.mk h
  have HQ := Sd.mk hq
  have hsm := h.small
  have HL := Sd.mk h.len
  clear h hq
  go_enter Try.func30, Try.ntmps30
  go_wp2
  go_loop [5, 13] (fun v5 v13 => ∃ (i : Nat) (m : Nat), i ≤ n ∧ m ≤ i ∧ v13 = .int .i64 i ∧ v5 = .int .i64 m ∧ Sd (m = inn v (vs.take i))) (fun v5 v13 => n - (intOf v13).toNat)
  case atStart => exact ⟨0, 0, by omega, by omega, rfl, rfl, ⟨rfl⟩⟩
  case round =>
    obtain ⟨i, m, hi, hmi, rfl, rfl, HM⟩ := hrel
    by_cases hlt : i < n
    · obtain ⟨x, hx⟩ : ∃ x, vs[i]? = some x := ⟨vs[i]'(by rw [HL.out]; exact hlt), List.getElem?_eq_getElem _⟩
      have c0 := H.out.cell hx
      have HX := Sd.mk (inn_take (v := v) hx)
      have hii : (i : Int) < n := by omega
      clear hx
      by_cases e : x = v
      · subst e
        go_wp2
        go_round
        case rel => exact ⟨i + 1, m + 1, by omega, by omega, by go_num, by go_num, ⟨by rw [HX.out, HM.out, if_pos rfl]⟩⟩
        case measure => simp [intOf]; omega
      · have d : (x == v) = false := beq_eq_false_iff_ne.2 e
        have HXN := Sd.mk e
        clear e
        go_wp2
        go_round
        case rel => exact ⟨i + 1, m, by omega, by omega, by go_num, rfl, ⟨by rw [HX.out, HM.out, if_neg HXN.out, Nat.add_zero]⟩⟩
        case measure => simp [intOf]; omega
    · have hii : decide (i < n) = false := decide_eq_false (by omega)
      obtain rfl : i = n := by omega
      obtain rfl : m = q := by rw [HM.out, List.take_of_length_le (by rw [HL.out]; exact Nat.le_refl _), HQ.out]
      go_wp2
      go_ret
      exact ⟨rfl, rfl⟩
end
theorem infoN : ((Try.prog).info? 3).map (fun i => (i.zero, i.size, i.bytes)) = some (some (.int .i64 0), 1, 8) := by kernel_rfl
theorem new_end (w w1 : World) (n : Nat) (n7 : n ≤ 7) (HO : Sd (w1.ownsRow 0 3 1 (.slice (some ⟨w.heap.size, 0, none⟩) n n) n (madeCells (Value.int .i64 0).cells (n * 1)).toList)) (HG : Sd (w.grownBy w1 none)) : Gth w1.heap.size w.heap.size n (List.replicate n 0) (w1.alloc (.cells #[.slice (some ⟨w.heap.size, 0, none⟩) n n] 82)) ∧ Below w.heap.size w (w1.alloc (.cells #[.slice (some ⟨w.heap.size, 0, none⟩) n n] 82)) := by
  have hsz := HG.out.size
  refine ⟨⟨by simp, by omega, blk_new _ _, ?_⟩, ⟨HG.out.os, HG.out.tape, HG.out.output, by simp; omega, fun i hi => ?_⟩⟩
  · have := HO.out.alloc (.cells #[.slice (some ⟨w.heap.size, 0, none⟩) n n] 82)
    have e : (madeCells (Value.int .i64 0).cells (n * 1)).toList = (List.replicate n (0 : Int)).map (Value.int .i64) := by
      simp only [madeCells, Value.cells, List.map_replicate]
      apply List.ext_getElem?
      intro i
      simp only [Nat.mul_one, List.getElem?_map, List.getElem?_replicate, Array.toList_map, Array.toList_range]
      by_cases hi : i < n
      · rw [List.getElem?_range hi, if_pos hi]; simp [Nat.mod_one]
      · rw [if_neg hi, List.getElem?_eq_none (by simp; omega)]; rfl
    rw [e] at this
    exact this
  · exact ((below_one w1 _).block i (by omega)).trans (HG.out.block i hi (by simp))
set_option maxHeartbeats 4000000 in
set_option maxRecDepth 100000 in
theorem new_any (w : World) (k : Int) (n : Nat) (hk : min (max k 1) 7 = (n : Int)) : Calls Try.prog 23 #[.int .i64 k] w fun e w' => ∃ g b, e = .returned (.pointer (some ⟨g, 0, none⟩)) ∧ w.heap.size ≤ g ∧ w.heap.size ≤ b ∧ Gth g b n (List.replicate n 0) w' ∧ Below w.heap.size w w' := by
  have n7 : n ≤ 7 := by omega
  obtain ⟨i0, hi, hzz⟩ := Option.map_eq_some_iff.1 infoN
  simp only [Prod.mk.injEq] at hzz
  obtain ⟨hz0, hz1, hz2⟩ := hzz
  by_cases h1 : k < 1
  · have e1 : n = 1 := by omega
    subst e1
    clear hk
    have hmk : ∀ W, (Instr.makeSlice 22 (.int .i64 1) (.int .i64 1)).run Try.prog W = .ok (.slice (some ⟨W.heap.size, 0, none⟩) 1 1) (W.alloc (.cells #[.int .i64 0] 3)) := fun W => by kernel_rfl
    go_enter Try.func23, Try.ntmps23
    (go_wp2; go_ret; have he := new_end w (w.alloc (.cells #[.int .i64 0] 3)) 1 (by omega) ⟨⟨by kernel_rfl, .inr ⟨w.heap.size, 1, #[.int .i64 0], rfl, Nat.zero_le _, blk_new _ _, Nat.le_refl _, by unfold maxLen; omega, rfl, by kernel_rfl⟩⟩⟩ ⟨⟨rfl, rfl, rfl, by simp, fun i hi _ => (below_one w _).block i hi⟩⟩; rw [World.size_alloc] at he; exact ⟨_, _, rfl, by simp, Nat.le_refl _, he.1, he.2⟩)
  · by_cases h7 : 7 < k
    · have e1 : n = 7 := by omega
      subst e1
      have h1' : 1 ≤ k := by omega
      clear hk h1
      have hmk : ∀ W, (Instr.makeSlice 22 (.int .i64 7) (.int .i64 7)).run Try.prog W = .ok (.slice (some ⟨W.heap.size, 0, none⟩) 7 7) (W.alloc (.cells #[.int .i64 0, .int .i64 0, .int .i64 0, .int .i64 0, .int .i64 0, .int .i64 0, .int .i64 0] 3)) := fun W => by kernel_rfl
      go_enter Try.func23, Try.ntmps23
      (go_wp2; go_ret; have he := new_end w (w.alloc (.cells #[.int .i64 0, .int .i64 0, .int .i64 0, .int .i64 0, .int .i64 0, .int .i64 0, .int .i64 0] 3)) 7 (by omega) ⟨⟨by kernel_rfl, .inr ⟨w.heap.size, 7, #[.int .i64 0, .int .i64 0, .int .i64 0, .int .i64 0, .int .i64 0, .int .i64 0, .int .i64 0], rfl, Nat.zero_le _, blk_new _ _, Nat.le_refl _, by unfold maxLen; omega, rfl, by kernel_rfl⟩⟩⟩ ⟨⟨rfl, rfl, rfl, by simp, fun i hi _ => (below_one w _).block i hi⟩⟩; rw [World.size_alloc] at he; exact ⟨_, _, rfl, by simp, Nat.le_refl _, he.1, he.2⟩)
    · obtain rfl : k = (n : Int) := by omega
      have hk1 : max (n : Int) 1 = n := by omega
      have hk2 : min (n : Int) 7 = n := by omega
      clear hk h1 h7
      go_enter Try.func23, Try.ntmps23
      go_wp2_with (refine wpList_make_full _ rfl (.tmp 5) (.tmp 5) 22 rfl 0 3 i0 (.int .i64 0) 1 Try.underlying22 hi hz0 hz1 .i64 .i64 ((n : Int)) ((n : Int)) _ rfl rfl rfl rfl (by rw [hz2]; omega) (by unfold maxLen; omega) (Nat.zero_le _) ?_; intro w1 hown hg; have HO := Sd.mk hown; have HG := Sd.mk hg; clear hown hg)
      (go_ret; have hz := HG.out.size; have he := new_end w w1 (n) (by omega) HO HG; exact ⟨w1.heap.size, w.heap.size, rfl, hz, Nat.le_refl _, he.1, he.2⟩)
end Go.Proofs.Ytgleoeiiiadanaa.Gat
