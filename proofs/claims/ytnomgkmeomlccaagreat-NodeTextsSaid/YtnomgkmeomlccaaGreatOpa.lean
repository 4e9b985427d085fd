/- A log without records: made, cut, read: walked. -/
import Derived.RangeFuncBox
import Derived.RangeFuncLeaves
import Derived.Shelf.Abstract
import Derived.WalkKit
import Derived.OwnWalkIn
import Derived.TacticsInMore
import Derived.LoopNIn
import Derived.LoopIn
import Derived.RegionIn
import Derived.BigRegionIn
import Derived.Maps.AppendAt
import Derived.Test.YtnomgkmeomlccaaGreatMv
set_option linter.unusedVariables false
set_option linter.unusedSimpArgs false
namespace Go.Proofs.YtnomgkmeomlccaaGreat.Opn
open Go.RowKit Go.Shelf Rd Api _root_.Go.Proofs.YtnomgkmeomlccaaGreat.Own Mv
attribute [local go_sem] Oper.semAt_some

/-- a log without a byte -/
def Lg (g : Nat) (W : World) : Prop := W.heap[g]? = some (.cells #[.string { data := #[] }, .int .i64 0, .int .i64 (-1), .bool false] 128 (0, 0))
theorem new_any (w : World) : Calls Tryz.prog 9 #[] w fun e w' => e = .returned (.pointer (some ⟨w.heap.size, 0, none⟩)) ∧ Lg w.heap.size w' ∧ RowKit.Below w.heap.size w w' := by
  have hof : Calls Tryz.prog 35 #[.string { data := #[] }] w fun e w' => e = .returned (.pointer (some ⟨w.heap.size, 0, none⟩)) ∧ w' = w.alloc (.cells #[.string { data := #[] }, .int .i64 0, .int .i64 (-1), .bool false] 128) := by
    go_enter Tryz.func35, Tryz.ntmps35
    go_wp2
    go_ret
    exact ⟨rfl, rfl⟩
  go_enter Tryz.func9, Tryz.ntmps9
  go_wp2_with (first
    | (go_at_call 35; (with_reducible refine hof.mono ?_); rintro e w1 ⟨rfl, rfl⟩))
  go_ret
  exact ⟨rfl, blk_new w _, below_one w _⟩
theorem records_any (w : World) (g : Nat) : Calls Tryz.prog 67 #[.pointer (some ⟨g, 0, none⟩)] w fun e w' => e = .returned (.func (.func 99) #[] #[.pointer (some ⟨w.heap.size, 0, none⟩)]) ∧ w' = w.alloc (.cells #[.pointer (some ⟨g, 0, none⟩)] 42) := by
  go_enter Tryz.func67, Tryz.ntmps67
  go_wp2
  go_ret
  exact ⟨rfl, rfl⟩
set_option maxRecDepth 100000 in
set_option maxHeartbeats 2000000 in
theorem it_in (n l0 Bs g : Nat) (W : World) (hBs : W.cell? ⟨Bs, 0, none⟩ = some (.pointer (some ⟨g, 0, none⟩))) (hg : Lg g W) :
    CallsIn Fence.wide n Tryz.prog 99 #[.func (.yield l0) #[] #[], .pointer (some ⟨Bs, 0, none⟩)] W fun e W' => (∃ v, e = .returned v) ∧ W' = W := by
  have hro : Fence.wide.round = none := rfl
  have h7 : Fence.wide.fn 99 := trivial
  have c0 := blk_at hg 0 _ rfl
  refine callsIn_of_wp Tryz.func99 rfl h7 ?_ hro
  simp only [Tryz.ntmps99, List.size_toArray, List.length_cons, List.length_nil, Nat.reduceAdd, Nat.reduceSub, Array.replicate_succ, Array.replicate_zero, List.push_toArray, List.append_toArray, List.nil_append, List.cons_append]
  gi_wp2
  gi_loopw [3] (fun i wr => i = .int .i64 0 ∧ wr = W) (fun _ _ => 0)
  case atStart => exact ⟨rfl, rfl⟩
  case round =>
    obtain ⟨rfl, rfl⟩ := hrel
    gi_wp2
    go_end0
    exact ⟨⟨_, rfl⟩, rfl⟩
theorem it_seq (n Bs g : Nat) (w : World) (hBs : w.heap[Bs]? = some (.cells #[.pointer (some ⟨g, 0, none⟩)] 42 (0, 0))) (hg : Lg g w) :
    SeqStopsK Fence.wide n Tryz.prog 99 #[.pointer (some ⟨Bs, 0, none⟩)] (fun x : Empty => (nomatch x : Array Value)) (Below w.heap.size) (fun ys => ys = []) (fun _ => False) 0 w := fun l0 J Jx W hW _ _ hY h0 =>
  (it_in n l0 Bs g W (blk_at (blk_keep hBs hW) 0 _ rfl) (blk_keep hg hW)).mono (by rintro e W' ⟨hv, rfl⟩; exact ⟨hv, .inl ⟨[], rfl, h0⟩⟩)
theorem grown_put {w W : World} {row : Option Nat} (h : w.grownBy W row) {D : Nat} (hD : w.heap.size ≤ D) (o' : Obj) : w.grownBy (W.putObj D o') row :=
  ⟨h.os, h.tape, h.output, by have := h.size; simp; omega, fun k hk hr => (World.putObj_heap_other (by omega)).trans (h.block k hk hr)⟩
set_option maxRecDepth 100000 in
set_option maxHeartbeats 4000000 in
theorem cut_in (n : Nat) (hn : 3 ≤ n) (w : World) (g : Nat) (hg : Lg g w) :
    CallsIn Fence.wide n Tryz.prog 43 #[.pointer (some ⟨g, 0, none⟩)] w fun e w' => e = .returned (.int .i64 0) ∧ Lg g w' ∧ w.grownBy w' (some g) := by
  have h1 : 1 ≤ n := by omega
  have mixed : Tryz.prog.follows .mixedOrders = true := by kernel_rfl
  have hro : Fence.wide.round = none := rfl
  have h5 : Fence.wide.fn 99 := trivial
  have h6 : Fence.wide.fn 67 := trivial
  have c3 := blk_at hg 3 _ rfl
  refine callsIn_of_wp_marks Tryz.func43 rfl trivial ?_ hro
  simp only [Tryz.ntmps43, List.size_toArray, List.length_cons, List.length_nil, Nat.reduceAdd, Nat.reduceSub, Array.replicate_succ, Array.replicate_zero, List.push_toArray, List.append_toArray, List.nil_append, List.cons_append]
  gi_wp2_with (first
    | (gi_at_call 67; refine (callsIn_wide.2 (records_any _ g)).mono ?_; rintro e w1 ⟨rfl, rfl⟩))
  obtain ⟨W5, hW5⟩ : ∃ W5, (w.alloc (.cells #[.int .i64 0] 3)).alloc (.cells #[.pointer (some ⟨g, 0, none⟩)] 42) = W5 := ⟨_, rfl⟩
  obtain ⟨n0, hn0⟩ : ∃ k, w.heap.size = k := ⟨_, rfl⟩
  have HB5 := Sd.mk (show RowKit.Below w.heap.size w W5 from by rw [← hW5]; exact below_then (below_one w _) (below_one _ _))
  have HG5 := Sd.mk (blk_keep hg HB5.out)
  have HE5 := Sd.mk (show W5.heap[n0]? = some (.cells #[.int .i64 0] 3 (0, 0)) from by rw [← hW5, ← hn0]; exact blk_keep (blk_new w _) (below_one _ _))
  have HI5 := Sd.mk (show W5.heap[n0 + 1]? = some (.cells #[.pointer (some ⟨g, 0, none⟩)] 42 (0, 0)) from by rw [← hW5, ← hn0]; exact blk_new1 _ _ _)
  have HGN := Sd.mk (show g < n0 by rw [← hn0]; exact blk_lt' hg)
  rw [hW5, hn0]
  rw [hn0] at HB5
  clear hW5
  refine wpIn_rangeFunc_ownG (α := Empty) hro h1 (gf := 99) (lb := #[.pointer (some ⟨n0 + 1, 0, none⟩)]) rfl h5 (enters_of Tryz.func99 (by kernel_rfl) rfl)
    (it_seq (n - 1) (n0 + 1) g W5 HI5.out HG5.out) belowK_t (belowK_b (Nat.le_refl _)) (Below.refl _ _) (fun x => nomatch x)
    (fun _ W => Below W5.heap.size W5 W) (fun _ _ _ => False) (ownFrom_below (Nat.le_refl _) (Nat.le_refl _)) (fun _ _ _ _ _ hs _ _ => hs) (Below.refl _ _) (fun x => nomatch x) (fun _ x _ _ _ => nomatch x) (fun _ _ x _ _ _ => nomatch x) ?done (fun _ _ _ _ _ h _ _ => h.elim)
  case done =>
    rintro D ys W hD rfl hB hK
    have hgW := blk_keep HG5.out hB
    have heW := blk_keep HE5.out hB
    have d0 := blk_at hgW 0 _ rfl
    have d1 := blk_at hgW 1 _ rfl
    have f0 := blk_frz hgW 0
    have f1 := blk_frz hgW 1
    have e0 := blk_at heW 0 _ rfl
    have hne := HGN.out
    have HEW := Sd.mk heW
    have HW := Sd.mk (And.intro hgW (HB5.out.trans (hB.mono (by have := HB5.out.size; omega))))
    have HK := Sd.mk hK
    clear hgW heW hB hK c3
    gi_wp2
    gi_region
    obtain ⟨W1, hW1⟩ : ∃ W1, (W.setCell ⟨g, 0, none⟩ (.string ByteArray.empty)).drew = W1 := ⟨_, rfl⟩
    have hg1 : Lg g W1 := by rw [← hW1]; exact (blk_set3 HW.out.1 0 _).trans rfl
    have hb1 : w.grownBy W1 (some g) := by
      rw [← hW1]
      have hb := HW.out.2
      exact ⟨hb.os, hb.tape, hb.output, by have := hb.size; simp [World.setCell]; omega, fun k hk hr => (heap_set _ _ _ _ k (fun e => hr (by rw [e]))).trans (hb.block k (by omega))⟩
    have hk1 : W1.heap[D]? = some (.deferred (some [])) := by rw [← hW1]; exact (heap_set _ _ _ _ D (by have := HB5.out.size; have := HGN.out; omega)).trans HK.out
    have he1 : W1.heap[n0]? = some (.cells #[.int .i64 0] 3 (0, 0)) := by rw [← hW1]; exact (heap_set _ _ _ _ n0 (by omega)).trans HEW.out
    rw [hW1]
    have HW1 := Sd.mk (And.intro hg1 (And.intro hb1 hk1))
    have d0 := blk_at hg1 1 _ rfl
    have f0 := blk_frz hg1 1
    have e0 := blk_at he1 0 _ rfl
    clear hW1 d1 f1 hg1 hb1 hk1 he1
    gi_wp2
    gi_region
    gi_wp2
    have hg2 : Lg g (W1.setCell ⟨g, 1, none⟩ (.int .i64 0)).drew := (blk_set3 HW1.out.1 1 _).trans rfl
    have hb2 : w.grownBy (W1.setCell ⟨g, 1, none⟩ (.int .i64 0)).drew (some g) := by
      have hb := HW1.out.2.1
      exact ⟨hb.os, hb.tape, hb.output, by have := hb.size; simp [World.setCell]; omega, fun k hk hr => (heap_set _ _ _ _ k (fun e => hr (by rw [e]))).trans (hb.block k hk hr)⟩
    have hk2 : (W1.setCell ⟨g, 1, none⟩ (.int .i64 0)).drew.heap[D]? = some (.deferred (some [])) := (heap_set _ _ _ _ D (by have := HB5.out.size; have := HGN.out; omega)).trans HW1.out.2.2
    generalize (W1.setCell ⟨g, 1, none⟩ (.int .i64 0)).drew = W2 at hg2 hb2 hk2 ⊢
    refine ⟨by simp, .inl ⟨_, _, rfl, run_takeDeferred hk2, ?_⟩⟩
    exact ⟨_, results_tmp rfl _ _ _, rfl, (World.putObj_heap_other (by have := HB5.out.size; have := HGN.out; omega)).trans hg2, grown_put hb2 (by have := HB5.out.size; omega) _⟩
theorem cut_any (w : World) (g : Nat) (hg : Lg g w) : Calls Tryz.prog 43 #[.pointer (some ⟨g, 0, none⟩)] w fun e w' => e = .returned (.int .i64 0) ∧ Lg g w' ∧ w.grownBy w' (some g) :=
  (callsIn_wide (n := 6)).1 (cut_in 6 (by omega) w g hg)
set_option maxRecDepth 100000 in
set_option maxHeartbeats 4000000 in
theorem read_in (n : Nat) (hn : 3 ≤ n) (w : World) (g : Nat) (hg : Lg g w) :
    CallsIn Fence.wide n Tryz.prog 44 #[.pointer (some ⟨g, 0, none⟩)] w fun e w' => e = .returned (.tuple #[.slice none 0 0, .int .i64 0]) ∧ RowKit.Below w.heap.size w w' := by
  have h1 : 1 ≤ n := by omega
  have hro : Fence.wide.round = none := rfl
  have h5 : Fence.wide.fn 99 := trivial
  have h6 : Fence.wide.fn 67 := trivial
  have c3 := blk_at hg 3 _ rfl
  refine callsIn_of_wp_marks Tryz.func44 rfl trivial ?_ hro
  simp only [Tryz.ntmps44, List.size_toArray, List.length_cons, List.length_nil, Nat.reduceAdd, Nat.reduceSub, Array.replicate_succ, Array.replicate_zero, List.push_toArray, List.append_toArray, List.nil_append, List.cons_append]
  gi_wp2_with (first
    | (gi_at_call 67; refine (callsIn_wide.2 (records_any _ g)).mono ?_; rintro e w1 ⟨rfl, rfl⟩))
  obtain ⟨W5, hW5⟩ : ∃ W5, (w.alloc (.cells #[.slice none 0 0] 28)).alloc (.cells #[.pointer (some ⟨g, 0, none⟩)] 42) = W5 := ⟨_, rfl⟩
  obtain ⟨n0, hn0⟩ : ∃ k, w.heap.size = k := ⟨_, rfl⟩
  have HB5 := Sd.mk (show RowKit.Below w.heap.size w W5 from by rw [← hW5]; exact below_then (below_one w _) (below_one _ _))
  have HG5 := Sd.mk (blk_keep hg HB5.out)
  have HE5 := Sd.mk (show W5.heap[n0]? = some (.cells #[.slice none 0 0] 28 (0, 0)) from by rw [← hW5, ← hn0]; exact blk_keep (blk_new w _) (below_one _ _))
  have HI5 := Sd.mk (show W5.heap[n0 + 1]? = some (.cells #[.pointer (some ⟨g, 0, none⟩)] 42 (0, 0)) from by rw [← hW5, ← hn0]; exact blk_new1 _ _ _)
  rw [hW5, hn0]
  rw [hn0] at HB5
  clear hW5
  refine wpIn_rangeFunc_ownG (α := Empty) hro h1 (gf := 99) (lb := #[.pointer (some ⟨n0 + 1, 0, none⟩)]) rfl h5 (enters_of Tryz.func99 (by kernel_rfl) rfl)
    (it_seq (n - 1) (n0 + 1) g W5 HI5.out HG5.out) belowK_t (belowK_b (Nat.le_refl _)) (Below.refl _ _) (fun x => nomatch x)
    (fun _ W => Below W5.heap.size W5 W) (fun _ _ _ => False) (ownFrom_below (Nat.le_refl _) (Nat.le_refl _)) (fun _ _ _ _ _ hs _ _ => hs) (Below.refl _ _) (fun x => nomatch x) (fun _ x _ _ _ => nomatch x) (fun _ _ x _ _ _ => nomatch x) ?done (fun _ _ _ _ _ h _ _ => h.elim)
  case done =>
    rintro D ys W hD rfl hB hK
    have e0 := blk_at (blk_keep HE5.out hB) 0 _ rfl
    have HW := Sd.mk (HB5.out.trans (hB.mono (by have := HB5.out.size; omega)))
    have HK := Sd.mk hK
    clear hB hK c3
    gi_wp2
    refine ⟨by simp, .inl ⟨_, _, rfl, run_takeDeferred HK.out, ?_⟩⟩
    refine ⟨.tuple #[.slice none 0 0, .int .i64 0], by simp [results, Tryz.results44, go_sem], rfl, ?_⟩
    have hb := HW.out
    exact ⟨hb.os, hb.tape, hb.output, by have := hb.size; simp; omega, fun k hk => (World.putObj_heap_other (by have := HB5.out.size; omega)).trans (hb.block k (by omega))⟩
theorem read_any (w : World) (g : Nat) (hg : Lg g w) : Calls Tryz.prog 44 #[.pointer (some ⟨g, 0, none⟩)] w fun e w' => e = .returned (.tuple #[.slice none 0 0, .int .i64 0]) ∧ RowKit.Below w.heap.size w w' :=
  (callsIn_wide (n := 6)).1 (read_in 6 (by omega) w g hg)
end Go.Proofs.YtnomgkmeomlccaaGreat.Opn
