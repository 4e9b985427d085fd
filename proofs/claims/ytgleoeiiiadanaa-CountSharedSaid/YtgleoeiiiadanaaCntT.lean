/- Collecting and sorting what a slice's iterator gives; the k-th greatest: walked. -/
import Derived.RangeFuncBox
import Derived.RangeFuncLeaves
import Derived.Shelf.Abstract
import Derived.WalkKit
import Derived.OwnWalkIn
import Derived.TacticsInMore
import Derived.LoopNIn
import Derived.LoopIn
import Derived.Maps.AppendAt
import Derived.Shelf.SlIterI.Sorted
import Derived.Test.YtgleoeiiiadanaaSorts
import Derived.Test.YtgleoeiiiadanaaTopP
import Derived.Test.YtgleoeiiiadanaaMv
set_option linter.unusedVariables false
set_option linter.unusedSimpArgs false
namespace Go.Proofs.Ytgleoeiiiadanaa.Gat
open Go.RowKit Go.Shelf Rd Api _root_.Go.Proofs.Ytgleoeiiiadanaa.Own Mv Top
attribute [local go_sem] Oper.semAt_some

/-- numbers that lie in blocks below n₀ -/
def Ints (n₀ : Nat) (A : Option Addr) (l : List Int) (W : World) : Prop := ∀ (j : Nat) (x : Int), l[j]? = some x → ∃ b o, A = some ⟨b, o, none⟩ ∧ b < n₀ ∧ W.cell? ⟨b, o + j, none⟩ = some (.int .i64 x)
theorem Ints.below {n₀ : Nat} {A : Option Addr} {l : List Int} {W W1 : World} (h : Ints n₀ A l W) (hb : Below n₀ W W1) : Ints n₀ A l W1 := fun j x hx => by
  obtain ⟨b, o, hA, hlt, hc⟩ := h j x hx
  exact ⟨b, o, hA, hlt, (hb.cell (p := ⟨b, o + j, none⟩) hlt).trans hc⟩
theorem ints_of {A : Option Addr} {c : Nat} {l : List Int} {W : World} (h : Sl (num .i64) W A c l) : Ints W.heap.size A l W := fun j x hx => by
  obtain ⟨hj, rfl⟩ := List.getElem?_eq_some_iff.1 hx
  obtain ⟨b, o, hA, hc⟩ := num_at h.row hj
  exact ⟨b, o, hA, World.block_lt_of_cell? _ _ hc, hc⟩
set_option maxRecDepth 100000 in
set_option maxHeartbeats 2000000 in
theorem values1_in (F : Fence) (n : Nat) (h7 : F.fn 68) (hro : F.round = none) (hn : 1 ≤ n) (l0 Bs n₀ cap : Nat) (A : Option Addr) (l : List Int) (hlen : l.length ≤ 1000) (J Jx : List Int → World → Prop)
    (hY : ∀ pre x W, J pre W → pre.length < l.length → YieldAt F (n - 1) Try.prog l0 #[.int .i64 x] W fun e W' =>
      (e = .returned (.bool true) ∧ J (pre ++ [x]) W' ∧ Below n₀ W W') ∨ (e = .returned (.bool false) ∧ Jx (pre ++ [x]) W'))
    (W : World) (hBs : W.cell? ⟨Bs, 0, none⟩ = some (.slice A l.length cap)) (hI : Ints n₀ A l W) (h0 : J [] W) :
    CallsIn F n Try.prog 68 #[.func (.yield l0) #[] #[], .pointer (some ⟨Bs, 0, none⟩)] W fun e W' => (∃ v, e = .returned v) ∧
      ((∃ ys, ys = l ∧ J ys W') ∨ (∃ pre, pre <+: l ∧ Jx pre W')) := by
  have HI := Sd.mk hI
  obtain ⟨len, hl⟩ : ∃ len, len = l.length := ⟨_, rfl⟩
  have HL := Sd.mk hl
  rw [← hl] at hBs hlen
  have HY := Sd.mk (show ∀ pre x W, J pre W → pre.length < len → YieldAt F (n - 1) Try.prog l0 #[.int .i64 x] W fun e W' =>
      (e = .returned (.bool true) ∧ J (pre ++ [x]) W' ∧ Below n₀ W W') ∨ (e = .returned (.bool false) ∧ Jx (pre ++ [x]) W') from by rw [hl]; exact hY)
  clear hI hl hY
  refine callsIn_of_wp Try.func68 rfl h7 ?_ hro
  simp only [Try.ntmps68, List.size_toArray, List.length_cons, List.length_nil, Nat.reduceAdd, Nat.reduceSub, Array.replicate_succ, Array.replicate_zero, List.push_toArray, List.append_toArray, List.nil_append, List.cons_append]
  gi_wp2
  gi_loopw [7] (fun i wr => ∃ k : Nat, k ≤ len ∧ i = .int .i64 k ∧ J (l.take k) wr ∧ Below n₀ W wr)
    (fun i _ => len - (intOf i).toNat)
  case atStart => exact ⟨0, Nat.zero_le _, rfl, h0, Below.refl _ _⟩
  case round =>
    obtain ⟨k, hk, rfl, hJs, hnx⟩ := hrel
    by_cases hlt : k < len
    · have hkl : k < l.length := by rw [← HL.out]; exact hlt
      obtain ⟨x, hx⟩ : ∃ x, l[k]? = some x := ⟨_, List.getElem?_eq_getElem hkl⟩
      obtain ⟨b, o, rfl, hb, hc⟩ := HI.out k x hx
      have hcx : wr.cell? ⟨b, o + k, none⟩ = some (.int .i64 x) := (hnx.cell (p := ⟨b, o + k, none⟩) hb).trans hc
      obtain ⟨fn, tmps, assign, body, hy, hR⟩ := HY.out _ x wr hJs (by rw [List.length_take]; omega)
      have HT := Sd.mk (show l.take (k + 1) = l.take k ++ [x] by rw [List.take_add_one, hx]; rfl)
      have HX := Sd.mk hx
      have hki : (k : Int) < len := by omega
      have hkl2 : k + 1 ≤ l.length := hkl
      clear hx hc hkl
      gi_wp2
      refine hR.mono ?_
      rintro e W3 (⟨rfl, hJ3, hk3⟩ | ⟨rfl, hJx3⟩)
      · gi_wp2
        go_roundw
        case rel => exact ⟨k + 1, by omega, by go_num, by rw [HT.out]; exact hJ3, hnx.trans hk3⟩
        case measure => simp [intOf]; omega
      · gi_wp2
        refine bodyPost_ret (results_none rfl _ _ _) rfl ?_
        exact ⟨⟨_, rfl⟩, .inr ⟨_, by rw [← HT.out]; exact List.take_prefix _ _, hJx3⟩⟩
    · have hki : decide ((k : Int) < len) = false := decide_eq_false (by omega)
      have HE := Sd.mk (show l.take k = l from List.take_of_length_le (by rw [← HL.out]; omega))
      gi_wp2
      go_end0
      exact ⟨⟨_, rfl⟩, .inl ⟨_, HE.out, hJs⟩⟩
theorem values_stops (F : Fence) (n : Nat) (h7 : F.fn 68) (hro : F.round = none) (hn : 1 ≤ n) (Bs n₀ cap : Nat) (A : Option Addr) (l : List Int) (hlen : l.length ≤ 1000) (w : World) (hBs : Bs < w.heap.size) (hn₀ : n₀ ≤ w.heap.size)
    (hc : w.cell? ⟨Bs, 0, none⟩ = some (.slice A l.length cap)) (hI : Ints n₀ A l w) :
    SeqStopsK F n Try.prog 68 #[.pointer (some ⟨Bs, 0, none⟩)] (fun x : Int => #[Value.int .i64 x]) (Below n₀) (fun ys => ys = l) (fun pre => pre <+: l) l.length w := fun l0 J Jx W hW _ _ hY h0 =>
  values1_in F n h7 hro hn l0 Bs n₀ cap A l hlen J Jx hY W ((hW.cell (p := ⟨Bs, 0, none⟩) hBs).trans hc) (hI.below (hW.mono hn₀)) h0
set_option maxHeartbeats 1000000 in
theorem values_any (A : Option Addr) (len cap : Nat) (w : World) :
    Calls Try.prog 52 #[.slice A len cap] w fun e w' => e = .returned (.func (.func 68) #[] #[.pointer (some ⟨w.heap.size, 0, none⟩)]) ∧ w' = w.alloc (.cells #[.slice A len cap] 22) := by
  go_enter Try.func52, Try.ntmps52
  go_wp2
  go_ret
  exact ⟨rfl, rfl⟩
theorem infoC : ((Try.prog).info? 3).map (fun i => (i.zero, i.size, i.bytes)) = some (some (.int .i64 0), 1, 8) := by kernel_rfl
set_option maxRecDepth 100000 in
set_option maxHeartbeats 2000000 in
theorem append_in (n : Nat) (hn : 3 ≤ n) (Bs cap : Nat) (A : Option Addr) (l : List Int) (hlen : l.length ≤ 1000) (w : World) (hBs : Bs < w.heap.size) (hc : w.cell? ⟨Bs, 0, none⟩ = some (.slice A l.length cap)) (hI : Ints w.heap.size A l w) :
    CallsIn Fence.wide n Try.prog 80 #[.slice none 0 0, .func (.func 68) #[] #[.pointer (some ⟨Bs, 0, none⟩)]] w fun e W' => ∃ v, e = .returned v ∧ W'.ownsRow w.heap.size 3 1 v l.length (l.map (Value.int .i64)) ∧ Below w.heap.size w W' := by
  have h1 : 1 ≤ n := by omega
  have hro : Fence.wide.round = none := rfl
  have h5 : Fence.wide.fn 68 := trivial
  obtain ⟨i0, hi, hz0, hz1, hz2⟩ := info_parts infoC
  refine callsIn_of_wp_marks Try.func80 rfl trivial ?_ hro
  simp only [Try.ntmps80, List.size_toArray, List.length_cons, List.length_nil, Nat.reduceAdd, Nat.reduceSub, Array.replicate_succ, Array.replicate_zero, List.push_toArray, List.append_toArray, List.nil_append, List.cons_append]
  gi_wp2
  have bO := Boxed.new w 22 (.slice none 0 0)
  have hB0 : Below w.heap.size w (w.alloc (.cells #[.slice none 0 0] 22)) := (Below.refl _ w).alloc (Nat.le_refl _) _
  refine wpIn_rangeFunc_ownG hro h1 (gf := 68) (lb := #[.pointer (some ⟨Bs, 0, none⟩)]) rfl h5 (enters_of Try.func68 (by kernel_rfl) rfl)
    (values_stops Fence.wide (n - 1) h5 hro (by omega) Bs w.heap.size cap A l hlen _ (by simp; omega) (by simp) ((hB0.cell (p := ⟨Bs, 0, none⟩) hBs).trans hc) (hI.below hB0)) belowK_t (belowK_b (by simp)) (Below.refl _ _) (fun _ => rfl)
    (fun pre W => (∃ v, Boxed W w.heap.size 22 v ∧ W.ownsRow w.heap.size 3 1 v pre.length (pre.map (Value.int .i64)) ∧ True) ∧ Below w.heap.size w W)
    (fun _ _ _ => False)
    (OwnFrom.and (Own.from (holdsRow_own w.heap.size w.heap.size 22 3 1 (fun pre : List Int => pre.length) (fun pre : List Int => pre.map (Value.int .i64)) (fun (pre : List Int) v => True)) _) (ownFrom_below (Nat.le_refl _) (by simp)))
    (fun _ _ _ _ _ hs _ _ => hs)
    ⟨⟨_, bO, World.ownsRow_nil _ _ _ _, trivial⟩, hB0⟩
    (fun x => { tmps := #[.slice none 0 0, .func (.func 68) #[] #[.pointer (some ⟨Bs, 0, none⟩)], .pointer (some ⟨w.heap.size, 0, none⟩), undef, .slice none 0 0, .int .i64 x, .func (.func 68) #[] #[.pointer (some ⟨Bs, 0, none⟩)], .int .i64 x, undef, undef, undef, undef, undef], defers := [] }) ?assign ?body ?done ?stop
  case assign =>
    intro l x W K hK
    gi_wp2
    exact hK
  case body =>
    rintro l0 pre x W ⟨⟨v, hv, hrow, -⟩, hB⟩ hlt
    have hc := hv.cell
    gi_wp2_with (gi_at_builtin; refine wpListIn_append_own _ rfl _ _ 22 rfl w.heap.size 3 i0 (.int .i64 0) 1 8 Try.underlying22 hi hz0 hz1 hz2 rfl (by decide) _ _ _ rfl (hrow.alloc _) ⟨W.heap.size, 0, none⟩ 1 1 [.int .i64 x] rfl rfl (cell_one_new _ _ _) (by simp [Value.oneCell']) (by unfold maxLen; omega) (by omega) (by have := hB.size; simp; omega) ?_; intro v' w1 hown' hgrow _; obtain ⟨g', cap', rfl⟩ := ownsRow_succ hown'; obtain ⟨hv1, hv2, hr2, hk2, hb2⟩ := hv.appended (by decide) hrow hB.size (Nat.le_refl _) hown' hgrow; have hc1 := hv1.cell; have hf1 := hv1.frozen)
    exact ⟨hk2.from _, hb2, ⟨_, hv2, by simpa using hr2, trivial⟩, hB.trans hb2⟩
  case done =>
    rintro D ys W hD rfl ⟨⟨v, hv, hrow, -⟩, hB⟩ hK
    have hc := hv.cell
    gi_wp2
    refine ⟨by simp, .inl ⟨_, _, rfl, run_takeDeferred hK, ?_⟩⟩
    exact ⟨_, results_tmp rfl _ _ _, v, rfl, ownsRow_putObj hrow _ hK rfl, hB.trans (belowK_b (w := w) (Nat.le_refl _) W D _ _ (by simp at hD; omega) hK rfl rfl)⟩
  case stop =>
    rintro D c pre W _ _ h _
    exact h.elim
theorem append_any (Bs cap : Nat) (A : Option Addr) (l : List Int) (hlen : l.length ≤ 1000) (w : World) (hBs : Bs < w.heap.size) (hc : w.cell? ⟨Bs, 0, none⟩ = some (.slice A l.length cap)) (hI : Ints w.heap.size A l w) :
    Calls Try.prog 80 #[.slice none 0 0, .func (.func 68) #[] #[.pointer (some ⟨Bs, 0, none⟩)]] w fun e W' => ∃ v, e = .returned v ∧ W'.ownsRow w.heap.size 3 1 v l.length (l.map (Value.int .i64)) ∧ Below w.heap.size w W' :=
  (callsIn_wide (n := 6)).1 (append_in 6 (by omega) Bs cap A l hlen w hBs hc hI)
set_option maxHeartbeats 1000000 in
theorem collect_any (Bs cap : Nat) (A : Option Addr) (l : List Int) (hlen : l.length ≤ 1000) (w : World) (hBs : Bs < w.heap.size) (hc : w.cell? ⟨Bs, 0, none⟩ = some (.slice A l.length cap)) (hI : Ints w.heap.size A l w) :
    Calls Try.prog 66 #[.func (.func 68) #[] #[.pointer (some ⟨Bs, 0, none⟩)]] w fun e W' => ∃ v, e = .returned v ∧ W'.ownsRow w.heap.size 3 1 v l.length (l.map (Value.int .i64)) ∧ Below w.heap.size w W' := by
  have h := append_any Bs cap A l hlen w hBs hc hI
  clear hc hI hBs hlen
  go_enter Try.func66, Try.ntmps66
  go_wp2_with (first
    | (go_at_call 80; (with_reducible refine h.mono ?_); rintro e w1 ⟨v, rfl, h1, h2⟩))
  go_ret
  exact ⟨v, rfl, h1, h2⟩
/-- sorted, rising -/
def srt (l : List Int) : List Int := l.mergeSort fun x y => decide (x ≤ y)
theorem srt_perm (l : List Int) : (srt l).Perm l := List.mergeSort_perm _ _
theorem srt_length (l : List Int) : (srt l).length = l.length := (srt_perm l).length_eq
theorem srt_pair (l : List Int) : (srt l).Pairwise (· ≤ ·) := by
  have := List.pairwise_mergeSort (le := fun x y : Int => decide (x ≤ y)) (fun a b c h1 h2 => by simp at *; omega) (fun a b => by simp; omega) l
  exact this.imp (fun h => by simpa using h)
set_option maxHeartbeats 1000000 in
theorem sorted_any (Bs cap : Nat) (A : Option Addr) (l : List Int) (hlen : l.length ≤ 1000) (w : World) (hBs : Bs < w.heap.size) (hc : w.cell? ⟨Bs, 0, none⟩ = some (.slice A l.length cap)) (hI : Ints w.heap.size A l w) :
    Calls Try.prog 51 #[.func (.func 68) #[] #[.pointer (some ⟨Bs, 0, none⟩)]] w fun e W' => ∃ v, e = .returned v ∧ W'.ownsRow w.heap.size 3 1 v l.length ((srt l).map (Value.int .i64)) ∧ Below w.heap.size w W' := by
  have h := collect_any Bs cap A l hlen w hBs hc hI
  clear hc hI hBs
  go_enter Try.func51, Try.ntmps51
  go_upto_region 2 with (first
    | (go_at_call 66; (with_reducible refine h.mono ?_); rintro e w1 ⟨v, rfl, h1, h2⟩))
  clear h
  rcases h1.2 with ⟨rfl, hz⟩ | ⟨gb, cap1, cur, rfl, hbase, hgb, r1, r2, r3, r4⟩
  · have hs := AnyM.slices_Sort_int_none Try.srtI none 0 w1
    change Calls Try.prog 67 _ _ _ at hs
    have e : l = [] := List.eq_nil_of_length_eq_zero hz
    subst e
    have HO := Sd.mk h1
    have HB := Sd.mk h2
    clear h1 h2
    go_wp2_with (first
      | (go_at_call 67; (with_reducible refine hs.mono ?_); rintro e w2 ⟨rfl, rfl⟩))
    go_ret
    exact ⟨.slice none 0 0, rfl, by have := HO.out; simpa [srt] using this, HB.out⟩
  · have hH : Go.Sort.Holds (Value.int .i64) w1 gb 0 l.toArray := holds_of_block_i hgb (by simpa using r4)
    have hgl : gb < w1.heap.size := (Array.getElem?_eq_some_iff.1 hgb).1
    have hs := AnyM.slices_Sort_int Try.srtI gb 0 cap1 l w1 hH hgl (by omega)
    change Calls Try.prog 67 _ _ _ at hs
    have HB := Sd.mk h2
    have R := Sd.mk (show _ ∧ _ ∧ _ ∧ _ ∧ _ from ⟨hbase, hgb, r1, r2, r3⟩)
    clear h1 h2 hH hgb r1 r2 r3 r4 hbase
    go_wp2_with (first
      | (go_at_call 67; (with_reducible refine hs.mono ?_); rintro e w2 ⟨rfl, nn, os, rfl⟩))
    go_ret
    obtain ⟨hbase, hgb, r1, r2, r3⟩ := R.out
    exact ⟨_, rfl, ownsRow_sorted_i (by simp) hbase hgb r1 r2 r3, HB.out.grown (grownBy_sorted_i _) HB.out.size (fun j hj => by cases hj; exact hbase)⟩
theorem isTop_srt (l : List Int) {k : Nat} (hk : 1 ≤ k) (hn : k ≤ l.length) : IsTop l k ((srt l)[l.length - k]'(by rw [srt_length]; omega)) := by
  have h := isTop_of (srt_perm l) (srt_pair l) hk (by rw [srt_length]; exact hn)
  simp only [srt_length] at h
  exact h
set_option maxHeartbeats 4000000 in
set_option maxRecDepth 100000 in
/-- the k-th greatest -/
theorem top_any (w : World) (A : Option Addr) (c : Nat) (l : List Int) (hs : Sl (num .i64) w A c l) (hlen : l.length ≤ 1000) (n k : Nat) (hln : l.length = n) (hk : 1 ≤ k) (hn : k ≤ n) (t : Int) (ht : IsTop l k t) :
    Calls Try.prog 17 #[.slice A n c, .int .i64 (k : Nat)] w fun e w' => e = .returned (.int .i64 t) ∧ Below w.heap.size w w' := by
  subst hln
  have hI := ints_of hs
  have hB0 := below_one w (.cells #[.slice A l.length c] 22)
  have hS := sorted_any w.heap.size c A l hlen (w.alloc (.cells #[.slice A l.length c] 22)) (by simp) (blk_at (blk_new w _) 0 _ rfl) (fun j x hx => by
    obtain ⟨b, o, hA, hlt, hc⟩ := hI j x hx
    exact ⟨b, o, hA, by simp; omega, cell_below hB0 hc⟩)
  have hV := fun W => values_any A l.length c W
  have HT := Sd.mk (show (srt l)[l.length - k]? = some t by rw [List.getElem?_eq_getElem (by rw [srt_length]; omega), (isTop_srt l hk hn).uniq ht])
  obtain ⟨m, hm⟩ : ∃ m, m = l.length := ⟨_, rfl⟩
  have HM := Sd.mk hm
  rw [← hm] at hn hlen hV hS HT hB0 ⊢
  have d0 : decide ((k : Int) < 1) = false := decide_eq_false (by omega)
  have d0b : decide (k < 1) = false := decide_eq_false (by omega)
  have d1 : decide ((m : Int) < (k : Int)) = false := decide_eq_false (by omega)
  have d1b : decide (m < k) = false := decide_eq_false (by omega)
  have HB0 := Sd.mk hB0
  clear hI hs ht hm hB0
  go_enter Try.func17, Try.ntmps17
  go_wp2_with (first
    | (go_at_call 52; (with_reducible refine (hV _).mono ?_); rintro e w1 ⟨rfl, rfl⟩)
    | (go_at_call 51; (with_reducible refine hS.mono ?_); rintro e w2 ⟨v, rfl, h1, h2⟩
       obtain ⟨gb, cap1, rfl⟩ : ∃ gb cap1, v = .slice (some ⟨gb, 0, none⟩) m cap1 := (by
         rcases h1.2 with ⟨_, hz⟩ | ⟨gb, cap1, _, rfl, _⟩
         · omega
         · exact ⟨gb, cap1, rfl⟩)
       have c0 : w2.cell? ⟨gb, m - k, none⟩ = some (.int .i64 t) := (by
         rw [h1.cellAt (m - k) (by omega), List.getElem?_map, HT.out]; rfl)
       have HB := Sd.mk (below_then HB0.out h2)
       have hmk : (m : Int) - (k : Int) = ((m - k : Nat) : Int) := (by omega)
       have hlt : m - k < m := (by omega)
       clear h1 h2 hS hV))
  go_ret
  exact ⟨rfl, HB.out⟩
set_option maxHeartbeats 4000000 in
/-- .. of none -/
theorem top_none (w : World) (A : Option Addr) (c n : Nat) (hn : n ≤ 1000) (k : Int) (hk : k < 1 ∨ (n : Int) < k) :
    Calls Try.prog 17 #[.slice A n c, .int .i64 k] w fun e w' => e = .returned (.int .i64 0) ∧ w' = w := by
  by_cases h : k < 1
  · have d0 : decide (k < 1) = true := decide_eq_true h
    clear hk
    go_enter Try.func17, Try.ntmps17
    go_wp2
    go_ret
    exact ⟨rfl, rfl⟩
  · have d0 : decide (k < 1) = false := decide_eq_false h
    have d1 : decide ((n : Int) < k) = true := decide_eq_true (by omega)
    clear hk
    go_enter Try.func17, Try.ntmps17
    go_wp2
    go_ret
    exact ⟨rfl, rfl⟩
end Go.Proofs.Ytgleoeiiiadanaa.Gat
