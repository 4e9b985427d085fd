/- forest.Path, Extends: walked. The reference's Up, Path, Same: walked. -/
import Derived.Test.YtnomgkmeomlccaaFoU
import Derived.Test.YtnomgkmeomlccaaRvs
import Derived.Sort.OwnSorted
import Derived.Shelf.Slices.ReverseS
import Derived.Lib.QuietBelow
set_option linter.unusedVariables false
set_option linter.unusedSimpArgs false
namespace Go.Proofs.Ytnomgkmeomlccaa.Fst
open Go.RowKit Go.Sort Rd Api _root_.Go.Proofs.Ytnomgkmeomlccaa.Own Mv App Num Dig
open Blk (Block Rq rqN fR digB coreB)
open Kee (Bk fB bkK Wk)
open Wtx (fS info_str)
attribute [local go_sem] Oper.semAt_some

def bys (l : List ByteArray) : List (List UInt8) := l.map (fun x => x.data.toList)
theorem flat_bys (l : List ByteArray) : flat fS l = (bys l).map encStr := by
  induction l with
  | nil => rfl
  | cons a r ih =>
    show fS a ++ flat fS r = _
    rw [ih]
    simp [bys, fS, encStr]
theorem bys_len (l : List ByteArray) : (bys l).length = l.length := by simp [bys]
/-- slices.Reverse at a row of the call's own -/
theorem rev_any (w : World) (base : Nat) (A : Option Addr) (n c : Nat) (l : List ByteArray) (hn : l.length = n) (h : OwnR fS 1 w base 9 (.slice A n c) l) :
    Calls Try.prog 83 #[.slice A n c] w fun e w' => e = .returned (.tuple #[]) ∧ OwnR fS 1 w' base 9 (.slice A n c) l.reverse ∧ w.grownBy w' (Value.ownBlock (.slice A n c)) := by
  rcases h.2 with ⟨e1, h0⟩ | ⟨g, cap, cur, e1, hb, hh, h1, h2, h3, h4⟩
  · cases e1
    have hl : l = [] := List.eq_nil_of_length_eq_zero h0
    subst hl
    refine (show Calls Try.prog 83 #[.slice none 0 0] w _ from Any.slices_Reverse_string_empty Try.laysNm217 none 0 w).mono ?_
    rintro e w' ⟨rfl, rfl⟩
    exact ⟨rfl, h, ⟨rfl, rfl, rfl, Nat.le_refl _, fun _ _ _ => rfl⟩⟩
  · simp only [Value.slice.injEq] at e1
    obtain ⟨rfl, e2, rfl⟩ := e1
    have h4' : cur.toList.take l.length = (bys l).map encStr := by rw [← flat_bys, ← h4, Nat.mul_one]
    have hH : Holds encStr w g 0 (bys l).toArray := holds_of_block hh (by rw [bys_len]; exact h4')
    have hc := Any.slices_Reverse_string Try.laysNm217 g 0 c (bys l) w hH (by rw [bys_len]; unfold maxLen at h2; omega)
    rw [bys_len, hn] at hc
    refine (show Calls Try.prog 83 #[.slice (some ⟨g, 0, none⟩) n c] w _ from hc).mono ?_
    rintro e w' ⟨rfl, q, rfl⟩
    have ho := ownsRow_sorted (w := w) (base := base) (g := g) (cap := c) (n := q) (e := 9) (os := #[]) (cur := cur) (ss := bys l) (ts := (bys l).reverse) (by simp) hb hh (by rw [bys_len]; exact h1) h2 h3
    have hg := grownBy_sorted (w := w) (g := g) (n := q) (os := #[]) (bys l).reverse.toArray
    rw [grow_empty] at ho hg
    refine ⟨rfl, ?_, hg⟩
    have e3 : (bys l).reverse = bys l.reverse := by simp [bys]
    unfold OwnR
    rw [e3, ← flat_bys, bys_len, hn] at ho
    rw [← e3] at ho
    rw [List.length_reverse, hn]
    exact ho
/-- a row of the call's own lies not there -/
theorem own_off {W : World} {base r : Nat} {v : Value} {l : List ByteArray} (h : OwnR fS 1 W base 9 v l) (hr : r < base ∨ ∃ o, W.heap[r]? = some o ∧ o.isCells = false) : v.ownBlock ≠ some r := by
  intro e
  rcases hr with hr | ⟨o, ho, hc⟩
  · have := (OwnR.ge h e).1
    omega
  · rcases h.2 with ⟨rfl, _⟩ | ⟨q, cap, cur, rfl, _, hh, _⟩
    · simp [Value.ownBlock] at e
    · simp only [Value.ownBlock, Option.some.injEq] at e
      subst e
      rw [hh] at ho
      cases ho
      cases hc
/-- the way between, or none -/
structure Pa (s : ByteArray) (xs : List ByteArray) (w : World) (v : Value) (ok : Bool) (W : World) : Prop where
  bel : RowKit.Below w.heap.size w W
  yes : ok = true → ∃ pre post, xs = pre ++ s :: post ∧ (∀ y ∈ pre, y ≠ s) ∧ OwnR fS 1 W w.heap.size 9 v pre.reverse
  no : ok = false → (∀ y ∈ xs, y ≠ s) ∧ v = .slice none 0 0
/-- the body's own state -/
structure Pv (w : World) (s : ByteArray) (v : Value) (pre : List ByteArray) (W : World) : Prop where
  bel : RowKit.Below w.heap.size w W
  e4 : W.heap[w.heap.size]? = some (.cells #[.string s] 9 (0, 0))
  e6 : W.heap[w.heap.size + 1]? = some (.cells #[.slice none 0 0] 49 (0, 0))
  e7 : W.heap[w.heap.size + 1 + 1]? = some (.cells #[.bool false] 4 (0, 0))
  e8 : W.heap[w.heap.size + 1 + 1 + 1]? = some (.cells #[v] 49 (0, 0))
  own : OwnR fS 1 W (w.heap.size + 6) 9 v pre
  ne : ∀ y ∈ pre, y ≠ s
  sz : w.heap.size + 6 ≤ W.heap.size
theorem Pv.turn {w : World} {s : ByteArray} {v : Value} {pre : List ByteArray} {W W1 : World} {row : Option Nat} (h : Pv w s v pre W) (hg : W.grownBy W1 row) (hr : ∀ r, row = some r → w.heap.size + 4 ≤ r ∧ v.ownBlock ≠ some r) : Pv w s v pre W1 := by
  have hk : ∀ k, k < w.heap.size + 4 → row ≠ some k := fun k hk e => by have := (hr k e).1; omega
  exact ⟨below_grown h.bel hg h.bel.size (fun r e => by have := (hr r e).1; omega), blk_grown h.e4 hg (hk _ (by omega)), blk_grown h.e6 hg (hk _ (by omega)), blk_grown h.e7 hg (hk _ (by omega)), blk_grown h.e8 hg (hk _ (by omega)), OwnR.grown h.own hg (by
    cases row with
    | none =>
      rcases Option.eq_none_or_eq_some v.ownBlock with e | ⟨q, e⟩
      · exact .inl e
      · exact .inr (by rw [e]; simp)
    | some r => exact .inr (hr r rfl).2), h.ne, Nat.le_trans h.sz hg.size⟩
/-- what the body leaves when it has found it -/
structure Px (w : World) (s : ByteArray) (pre : List ByteArray) (W : World) : Prop where
  ex : ∃ pr v, pre = pr ++ [s] ∧ (∀ y ∈ pr, y ≠ s) ∧ RowKit.Below w.heap.size w W ∧ W.heap[w.heap.size + 1]? = some (.cells #[v] 49 (0, 0)) ∧ W.heap[w.heap.size + 1 + 1]? = some (.cells #[.bool true] 4 (0, 0)) ∧ OwnR fS 1 W (w.heap.size + 6) 9 v pr.reverse
theorem Px.turn {w : World} {s : ByteArray} {pre : List ByteArray} {W W1 : World} {row : Option Nat} (h : Px w s pre W) (hg : W.grownBy W1 row) (hr : ∀ r, row = some r → w.heap.size + 4 ≤ r ∧ (r < w.heap.size + 6 ∨ ∃ o, W.heap[r]? = some o ∧ o.isCells = false)) : Px w s pre W1 := by
  obtain ⟨pr, v, h1, h2, h3, h4, h5, h6⟩ := h.ex
  have hk : ∀ k, k < w.heap.size + 4 → row ≠ some k := fun k hk e => by have := (hr k e).1; omega
  refine ⟨pr, v, h1, h2, below_grown h3 hg h3.size (fun r e => by have := (hr r e).1; omega), blk_grown h4 hg (hk _ (by omega)), blk_grown h5 hg (hk _ (by omega)), OwnR.grown h6 hg ?_⟩
  cases row with
  | none =>
    rcases Option.eq_none_or_eq_some v.ownBlock with e | ⟨q, e⟩
    · exact .inl e
    · exact .inr (by rw [e]; simp)
  | some r => exact .inr (own_off h6 (hr r rfl).2)
theorem keeps_grown {B : Nat} {W W1 : World} {row : Option Nat} (hg : W.grownBy W1 row) (hr : ∀ r, row = some r → r < B ∨ ∃ cs t fr, W.heap[r]? = some (.cells cs t fr)) : KeepsFrom B W W1 :=
  ⟨hg.size, fun k o hB hk hc => (hg.block k (blk_lt' hk) (fun e => by
    rcases hr k e.symm with h | ⟨cs, t, fr, h⟩
    · omega
    · rw [hk] at h
      cases h
      cases hc)).trans hk⟩
theorem own_cells {W : World} {base r : Nat} {v : Value} {l : List ByteArray} (h : OwnR fS 1 W base 9 v l) (e : v.ownBlock = some r) : ∃ cs t fr, W.heap[r]? = some (.cells cs t fr) := by
  rcases h.2 with ⟨rfl, _⟩ | ⟨q, cap, cur, rfl, _, hh, _⟩
  · simp [Value.ownBlock] at e
  · simp only [Value.ownBlock, Option.some.injEq] at e
    subst e
    exact ⟨_, _, _, hh⟩
/-- the way is turned round, and handed on -/
theorem Pv.found {w : World} {s : ByteArray} {A : Option Addr} {n c : Nat} {pre : List ByteArray} {W W1 : World} (h : Pv w s (.slice A n c) pre W) (ho : OwnR fS 1 W1 (w.heap.size + 6) 9 (.slice A n c) pre.reverse) (hg : W.grownBy W1 (Value.ownBlock (.slice A n c))) :
    KeepsFrom (w.heap.size + 6) W ((W1.setCell ⟨w.heap.size + 1, 0, none⟩ (.slice A n c)).setCell ⟨w.heap.size + 1 + 1, 0, none⟩ (.bool true)) ∧ Px w s (pre ++ [s]) ((W1.setCell ⟨w.heap.size + 1, 0, none⟩ (.slice A n c)).setCell ⟨w.heap.size + 1 + 1, 0, none⟩ (.bool true)) := by
  have hne : ∀ k, k < w.heap.size + 6 → Value.ownBlock (.slice A n c) ≠ some k := fun k hk e => by have := (OwnR.ge h.own e).1; omega
  have e6 := blk_grown h.e6 hg (hne _ (by omega))
  have e7 := blk_grown h.e7 hg (hne _ (by omega))
  have g1 := Kee.grown_set W1 (w.heap.size + 1) 0 (.slice A n c)
  have g2 := Kee.grown_set (W1.setCell ⟨w.heap.size + 1, 0, none⟩ (.slice A n c)) (w.heap.size + 1 + 1) 0 (.bool true)
  have o1 := OwnR.grown ho g1 (.inr (hne _ (by omega)))
  have o2 := OwnR.grown o1 g2 (.inr (hne _ (by omega)))
  refine ⟨((keeps_grown hg (fun r e => .inr (own_cells h.own e))).trans (keeps_grown g1 (fun r e => by cases e; exact .inl (by omega)))).trans (keeps_grown g2 (fun r e => by cases e; exact .inl (by omega))), pre, _, rfl, h.ne, ?_, ?_, ?_, o2⟩
  · exact ((below_grown h.bel hg h.bel.size (fun r e => by have := (OwnR.ge h.own e).1; omega)).setCell (p := ⟨w.heap.size + 1, 0, none⟩) (by simp) _).setCell (p := ⟨w.heap.size + 1 + 1, 0, none⟩) (by simp; omega) _
  · exact (heap_set _ _ 0 _ _ (by omega)).trans ((blk_set3 e6 0 _).trans rfl)
  · exact (blk_set3 ((heap_set _ _ 0 _ _ (by omega)).trans e7) 0 _).trans rfl
/-- one more -/
theorem Pv.more {w : World} {s x : ByteArray} {v v1 : Value} {pre : List ByteArray} {W W1 : World} (h : Pv w s v pre W) (hx : x ≠ s) (ho : OwnR fS 1 W1 (w.heap.size + 6) 9 v1 (pre ++ [x])) (hg : W.grownBy W1 v.ownBlock) :
    KeepsFrom (w.heap.size + 6) W (W1.setCell ⟨w.heap.size + 1 + 1 + 1, 0, none⟩ v1) ∧ Kp w.heap.size (w.heap.size + 1 + 1 + 1 + 1) (w.heap.size + 1 + 1 + 1 + 1 + 1) W (W1.setCell ⟨w.heap.size + 1 + 1 + 1, 0, none⟩ v1) ∧ Pv w s v1 (pre ++ [x]) (W1.setCell ⟨w.heap.size + 1 + 1 + 1, 0, none⟩ v1) := by
  have hne : ∀ k, k < w.heap.size + 6 → v.ownBlock ≠ some k := fun k hk e => by have := (OwnR.ge h.own e).1; omega
  have hne1 : ∀ k, k < w.heap.size + 6 → v1.ownBlock ≠ some k := fun k hk e => by have := (OwnR.ge ho e).1; omega
  have g1 := Kee.grown_set W1 (w.heap.size + 1 + 1 + 1) 0 v1
  have hsz := h.sz
  have hb : RowKit.Below w.heap.size W W1 := below_grown (Below.refl _ _) hg (by omega) (fun r e => by have := (OwnR.ge h.own e).1; omega)
  have hw1 := hg.size
  refine ⟨(keeps_grown hg (fun r e => .inr (own_cells h.own e))).trans (keeps_grown g1 (fun r e => by cases e; exact .inl (by omega))), ⟨hb.setCell (p := ⟨w.heap.size + 1 + 1 + 1, 0, none⟩) (by simp; omega) _, ?_, ?_, ?_⟩, ⟨?_, ?_, ?_, ?_, ?_, OwnR.grown ho g1 (.inr (hne1 _ (by omega))), ?_, ?_⟩⟩
  · exact (heap_set _ _ 0 _ _ (by omega)).trans (hg.block _ (by omega) (fun e => hne _ (by omega) e.symm))
  · exact (heap_set _ _ 0 _ _ (by omega)).trans (hg.block _ (by omega) (fun e => hne _ (by omega) e.symm))
  · simp [World.setCell]; omega
  · exact (h.bel.trans hb).setCell (p := ⟨w.heap.size + 1 + 1 + 1, 0, none⟩) (by simp; omega) _
  · exact (heap_set _ _ 0 _ _ (by omega)).trans (blk_grown h.e4 hg (hne _ (by omega)))
  · exact (heap_set _ _ 0 _ _ (by omega)).trans (blk_grown h.e6 hg (hne _ (by omega)))
  · exact (heap_set _ _ 0 _ _ (by omega)).trans (blk_grown h.e7 hg (hne _ (by omega)))
  · exact (blk_set3 (blk_grown h.e8 hg (hne _ (by omega))) 0 _).trans rfl
  · intro y hy
    rcases List.mem_append.1 hy with e | e
    · exact h.ne y e
    · rw [List.mem_singleton] at e
      subst e
      exact hx
  · simp [World.setCell]; omega
-- <L1
set_option maxRecDepth 100000 in
set_option maxHeartbeats 8000000 in
theorem path_in {w0 w : World} {g : Nat} {f : Fo} (hf : Fw w0 g f w) (hrz : f.root.size ≤ maxLen) (hbz : ∀ x ∈ f.nodes, x.b.just.block.size ≤ maxLen) (s t : ByteArray) (htz : t.size ≤ maxLen) (xs : List ByteArray) (hx : Upx f t xs) (hxl : xs.length ≤ 1000) :
    CallsIn Fence.wide 6 Try.prog 43 #[.pointer (some ⟨g, 0, none⟩), .string s, .string t] w fun e W' => ∃ v ok, e = .returned (.tuple #[v, .bool ok]) ∧ Pa s xs w v ok W' := by
  have mixed : Try.prog.follows .mixedOrders = true := by kernel_rfl
  have hro : Fence.wide.round = none := rfl
  have h1 : (1 : Nat) ≤ 6 := by omega
  have h119 : Fence.wide.fn 119 := trivial
  have h82 : Fence.wide.fn 82 := trivial
  have h83 : Fence.wide.fn 83 := trivial
  have b0 := below_one w (.cells #[.string s] 9)
  have b1 := below_one (w.alloc (.cells #[.string s] 9)) (.cells #[.slice none 0 0] 49)
  have b2 := below_one ((w.alloc (.cells #[.string s] 9)).alloc (.cells #[.slice none 0 0] 49)) (.cells #[.bool false] 4)
  have b3 := below_one (((w.alloc (.cells #[.string s] 9)).alloc (.cells #[.slice none 0 0] 49)).alloc (.cells #[.bool false] 4)) (.cells #[.slice none 0 0] 49)
  refine callsIn_of_wp_marks Try.func43 rfl trivial ?_ hro
  simp only [Try.ntmps43, List.size_toArray, List.length_cons, List.length_nil, Nat.reduceAdd, Nat.reduceSub, Array.replicate_succ, Array.replicate_zero, List.push_toArray, List.append_toArray, List.nil_append, List.cons_append]
  gi_wp2_with (first
    | (gi_at_call 82; refine (callsIn_wide.2 (fup_any _ g t)).mono ?_; rintro e w1 ⟨rfl, rfl⟩))
  obtain ⟨n0, hn0⟩ : ∃ n, w.heap.size = n := ⟨_, rfl⟩
  obtain ⟨W5, hW5⟩ : ∃ W5, ((((((w.alloc (.cells #[.string s] 9)).alloc (.cells #[.slice none 0 0] 49)).alloc (.cells #[.bool false] 4)).alloc (.cells #[.slice none 0 0] 49)).alloc (.cells #[.pointer (some ⟨g, 0, none⟩)] 62)).alloc (.cells #[.string t] 9)) = W5 := ⟨_, rfl⟩
  have b4 := below_one ((((w.alloc (.cells #[.string s] 9)).alloc (.cells #[.slice none 0 0] 49)).alloc (.cells #[.bool false] 4)).alloc (.cells #[.slice none 0 0] 49)) (.cells #[.pointer (some ⟨g, 0, none⟩)] 62)
  have b5 := below_one (((((w.alloc (.cells #[.string s] 9)).alloc (.cells #[.slice none 0 0] 49)).alloc (.cells #[.bool false] 4)).alloc (.cells #[.slice none 0 0] 49)).alloc (.cells #[.pointer (some ⟨g, 0, none⟩)] 62)) (.cells #[.string t] 9)
  have PV0 : Pv w s (.slice none 0 0) [] W5 := by
    rw [← hW5]
    refine ⟨below_then b0 (below_then b1 (below_then b2 (below_then b3 (below_then b4 b5)))), blk_keep (blk_new w _) (below_then b1 (below_then b2 (below_then b3 (below_then b4 b5)))), blk_keep (blk_new1 w _ _) (below_then b2 (below_then b3 (below_then b4 b5))), ?_, ?_, OwnR.nil _ _ _ _ _, fun y hy => (by cases hy), by simp⟩
    · have := blk_keep (blk_new1 (w.alloc (.cells #[.string s] 9)) (.cells #[.slice none 0 0] 49) (.cells #[.bool false] 4)) (below_then b3 (below_then b4 b5))
      simpa using this
    · have := blk_keep (blk_new1 ((w.alloc (.cells #[.string s] 9)).alloc (.cells #[.slice none 0 0] 49)) (.cells #[.bool false] 4) (.cells #[.slice none 0 0] 49)) (below_then b4 b5)
      simpa using this
  have US0 : Us w n0 g (n0 + 1 + 1 + 1 + 1) (n0 + 1 + 1 + 1 + 1 + 1) f t W5 := by
    refine ⟨by rw [← hn0]; exact PV0.bel, ?_, ?_⟩
    · rw [← hW5, ← hn0]
      have := blk_keep (blk_new1 (((w.alloc (.cells #[.string s] 9)).alloc (.cells #[.slice none 0 0] 49)).alloc (.cells #[.bool false] 4)) (.cells #[.slice none 0 0] 49) (.cells #[.pointer (some ⟨g, 0, none⟩)] 62)) b5
      simpa using this
    · rw [← hW5, ← hn0]
      have := blk_new1 ((((w.alloc (.cells #[.string s] 9)).alloc (.cells #[.slice none 0 0] 49)).alloc (.cells #[.bool false] 4)).alloc (.cells #[.slice none 0 0] 49)) (.cells #[.pointer (some ⟨g, 0, none⟩)] 62) (.cells #[.string t] 9)
      simpa using this
  have SZ5 : W5.heap.size = n0 + 6 := by rw [← hW5, ← hn0]; simp
  rw [hW5]
  clear hW5 b0 b1 b2 b3 b4 b5
  rw [hn0]
  refine Rfn.range_turn (Tn := Tn (n0 + 1 + 1 + 1 + 1 + 1)) (Kp := Kp n0 (n0 + 1 + 1 + 1 + 1) (n0 + 1 + 1 + 1 + 1 + 1)) (S := fun ys => ys = xs) (Sp := fun pre => pre <+: xs) (N := 1000) (encs := fun x => #[.string x]) hro h1 (gf := 119) (lb := #[.pointer (some ⟨n0 + 1 + 1 + 1 + 1, 0, none⟩), .pointer (some ⟨n0 + 1 + 1 + 1 + 1 + 1, 0, none⟩)]) rfl h119 (enters_of Try.func119 (by kernel_rfl) rfl)
    (fun l J Jx W hW hJ hJx hY h0 => up1_in 5 (by omega) hf hrz hbz l n0 (n0 + 1 + 1 + 1 + 1) (n0 + 1 + 1 + 1 + 1 + 1) t htz xs hx hxl J Jx hJ hJx hY W hn0 (by have := hW.size; omega) (by omega) (by omega) (by omega) (US0.below (by omega) hW) h0)
    (fun A B hT k o hk ho _ => (hT.block k (blk_lt' ho) (by simp; omega)).trans ho) (fun h k => h.trans k)
    (fun W l o o' hl ho _ _ => ⟨⟨rfl, rfl, rfl, by simp, fun k hk => World.putObj_heap_other (by omega)⟩, World.putObj_heap_other (by omega), World.putObj_heap_other (by omega), by simp⟩) (fun _ => rfl)
    (fun pre W => ∃ v, Pv w s v pre W) (fun c pre W => c = .ret ∧ Px w s pre W) ?own ?ownx ?turn ?turnx ⟨_, PV0⟩
    (fun x => { tmps := #[.pointer (some ⟨g, 0, none⟩), .string s, .string t, undef, .pointer (some ⟨n0, 0, none⟩), undef, .pointer (some ⟨n0 + 1, 0, none⟩), .pointer (some ⟨n0 + 1 + 1, 0, none⟩), .pointer (some ⟨n0 + 1 + 1 + 1, 0, none⟩), .string x, .pointer (some ⟨g, 0, none⟩), .string t, .func (.func 119) #[] #[.pointer (some ⟨n0 + 1 + 1 + 1 + 1, 0, none⟩), .pointer (some ⟨n0 + 1 + 1 + 1 + 1 + 1, 0, none⟩)], .string x, undef, undef, undef, undef, undef, undef, undef, undef, undef, undef], defers := [] }) ?assign ?body ?done ?stop
  case own =>
    rintro pre A B row ⟨v, h⟩ hg hr
    exact ⟨v, h.turn hg (fun r e => ⟨by have := (hr r e).1; omega, own_off h.own (.inr (hr r e).2)⟩)⟩
  case ownx =>
    rintro c pre A B row ⟨rfl, h⟩ hg hr
    exact ⟨rfl, h.turn hg (fun r e => ⟨by have := (hr r e).1; omega, .inr (hr r e).2⟩)⟩
  case turn =>
    rintro pre A B ⟨v, h⟩ hT
    exact ⟨v, h.turn hT (fun r e => by cases e; exact ⟨by omega, own_off h.own (.inl (by omega))⟩)⟩
  case turnx =>
    rintro c pre A B ⟨rfl, h⟩ hT
    exact ⟨rfl, h.turn hT (fun r e => by cases e; exact ⟨by omega, .inl (by omega)⟩)⟩
  case assign =>
    intro l x W K hK
    gi_wp2
    exact hK
  case body =>
    rintro l pre x W ⟨v, hv⟩ hlt
    obtain ⟨A3, c3, rfl⟩ := OwnR.slice hv.own
    obtain ⟨m, hm⟩ : ∃ m, pre.length = m := ⟨_, rfl⟩
    rw [hm] at hv hlt
    have c4 := blk_at hv.e4 0 _ rfl
    have c8 := blk_at hv.e8 0 _ rfl
    have HV := Sd.mk hv
    have HM := Sd.mk hm
    rw [hn0] at c4 c8
    clear hv hm
    rcases Decidable.em (x = s) with ex | ex
    · have hxs : (x.toList == s.toList) = true := by rw [Rp.str_beq]; exact decide_eq_true ex
      have hRV := rev_any W (w.heap.size + 6) A3 m c3 pre HM.out HV.out.own
      subst ex
      gi_wp2_with (first
        | (gi_at_call 83; refine (CallsIn.inRound l (callsIn_wide.2 hRV)).mono ?_; rintro e w1 ⟨rfl, ho, hg⟩; have HFD := Sd.mk (HV.out.found ho hg); have hne : ∀ k, k < w.heap.size + 6 → Value.ownBlock (.slice A3 m c3) ≠ some k := (fun k hk e => by have := (OwnR.ge HV.out.own e).1; omega); have d6 := blk_at (blk_grown HV.out.e6 hg (hne _ (by omega))) 0 _ rfl; have d7 := blk_at (blk_grown HV.out.e7 hg (hne _ (by omega))) 0 _ rfl; have d8 := blk_at (blk_grown HV.out.e8 hg (hne _ (by omega))) 0 _ rfl; have f6 := blk_frz (blk_grown HV.out.e6 hg (hne _ (by omega))) 0; have f7 := blk_frz (blk_grown HV.out.e7 hg (hne _ (by omega))) 0; rw [hn0] at d6 d7 d8 f6 f7; clear ho hg hne hRV c4 c8))
      rw [hn0] at HFD
      rw [SZ5]
      exact ⟨HFD.out.1, rfl, HFD.out.2⟩
    · have hxs : (x.toList == s.toList) = false := by rw [Rp.str_beq]; exact decide_eq_false ex
      obtain ⟨i0, hi, hz0, hz1, hz2⟩ := info_parts info_str
      have hrow : W.ownsRow (w.heap.size + 6) 9 1 (.slice A3 m c3) m (flat fS pre) := by have h := HV.out.own; unfold OwnR at h; rwa [HM.out] at h
      have hsz := HV.out.sz
      have HEX := Sd.mk ex
      clear ex
      gi_wp2_with (gi_at_builtin; refine wpListIn_append_own _ rfl _ _ 49 rfl (w.heap.size + 6) 9 i0 (.string ByteArray.empty) 1 16 Try.underlying49 hi hz0 hz1 hz2 rfl (by decide) _ _ _ rfl (hrow.alloc _) ⟨W.heap.size, 0, none⟩ 1 1 [.string x] rfl rfl (cell_one_new _ _ _) (by simp [Value.oneCell']) (by unfold maxLen; omega) (by omega) (by simp; omega) ?_; intro v9 w9 hown hg _; obtain ⟨g9, c9, rfl⟩ := ownsRow_succ hown; have ho9 : OwnR fS 1 w9 (w.heap.size + 6) 9 (.slice (some ⟨g9, 0, none⟩) (m + 1) c9) (pre ++ [x]) := (by unfold OwnR; rw [flat_append, List.length_append, HM.out]; exact hown); have hg9 : W.grownBy w9 (Value.ownBlock (.slice A3 m c3)) := ⟨hg.os, hg.tape, hg.output, by have := hg.size; simp at this; omega, fun k hk hr => (hg.block k (by simp; omega) hr).trans ((below_one W _).block k hk)⟩; have HMR := Sd.mk (HV.out.more HEX.out ho9 hg9); have e8 := blk_grown HV.out.e8 hg9 (fun e => by have := (OwnR.ge HV.out.own e).1; omega); have d8 := blk_at e8 0 _ rfl; have f8 := blk_frz e8 0; rw [hn0] at d8 f8; clear hown hg ho9 hg9 e8 c4 c8 hrow)
      rw [hn0] at HMR
      rw [SZ5]
      exact ⟨HMR.out.1, HMR.out.2.1, _, HMR.out.2.2⟩
  case done =>
    rintro D ys W hD rfl ⟨v, hv⟩ hK
    have c6 := blk_at hv.e6 0 _ rfl
    have c7 := blk_at hv.e7 0 _ rfl
    have f6 := blk_frz hv.e6 0
    have f7 := blk_frz hv.e7 0
    rw [hn0] at c6 c7 f6 f7
    have HV := Sd.mk hv
    have HK := Sd.mk hK
    clear hv hK
    gi_wp2
    clear c6 c7 f6 f7
    have hv := HV.out
    have e6 : ((W.setCell ⟨n0 + 1, 0, none⟩ (.slice none 0 0)).setCell ⟨n0 + 1 + 1, 0, none⟩ (.bool false)).heap[n0 + 1]? = some (.cells #[.slice none 0 0] 49 (0, 0)) := (heap_set _ _ 0 _ _ (by omega)).trans ((blk_set3 (by rw [← hn0]; exact hv.e6) 0 _).trans rfl)
    have e7 : ((W.setCell ⟨n0 + 1, 0, none⟩ (.slice none 0 0)).setCell ⟨n0 + 1 + 1, 0, none⟩ (.bool false)).heap[n0 + 1 + 1]? = some (.cells #[.bool false] 4 (0, 0)) := (blk_set3 ((heap_set _ _ 0 _ _ (by omega)).trans (by rw [← hn0]; exact hv.e7)) 0 _).trans rfl
    have eD : ((W.setCell ⟨n0 + 1, 0, none⟩ (.slice none 0 0)).setCell ⟨n0 + 1 + 1, 0, none⟩ (.bool false)).heap[D]? = some (.deferred (some [])) := (heap_set _ _ 0 _ _ (by omega)).trans ((heap_set _ _ 0 _ _ (by omega)).trans HK.out)
    have hb : RowKit.Below w.heap.size w ((W.setCell ⟨n0 + 1, 0, none⟩ (.slice none 0 0)).setCell ⟨n0 + 1 + 1, 0, none⟩ (.bool false)) := (hv.bel.setCell (p := ⟨n0 + 1, 0, none⟩) (by simp; omega) _).setCell (p := ⟨n0 + 1 + 1, 0, none⟩) (by simp; omega) _
    generalize (W.setCell ⟨n0 + 1, 0, none⟩ (.slice none 0 0)).setCell ⟨n0 + 1 + 1, 0, none⟩ (.bool false) = X at e6 e7 eD hb ⊢
    refine ⟨by simp, .inl ⟨_, _, rfl, run_takeDeferred eD, ?_⟩⟩
    have y6 := blk_at (((World.putObj_heap_other (w := X) (r := D) (by omega)).trans e6) : (X.putObj D (.deferred none)).heap[n0 + 1]? = _) 0 _ rfl
    have y7 := blk_at (((World.putObj_heap_other (w := X) (r := D) (by omega)).trans e7) : (X.putObj D (.deferred none)).heap[n0 + 1 + 1]? = _) 0 _ rfl
    exact ⟨.tuple #[.slice none 0 0, .bool false], by simp [results, Try.results43, go_sem, y6, y7], _, _, rfl, ⟨hb.trans ⟨rfl, rfl, rfl, by simp, fun k hk => World.putObj_heap_other (by omega)⟩, fun e => (by cases e), fun _ => ⟨hv.ne, rfl⟩⟩⟩
  case stop =>
    rintro D c pre W hD hpre ⟨rfl, hx9⟩ hK
    have HX := Sd.mk hx9
    have HK := Sd.mk hK
    clear hx9 hK
    gi_wp2
    obtain ⟨pr, v, x1, x2, x3, x4, x5, x6⟩ := HX.out.ex
    rw [hn0] at x4 x5 x6
    refine ⟨by simp, .inl ⟨_, _, rfl, run_takeDeferred HK.out, ?_⟩⟩
    have y6 := blk_at (((World.putObj_heap_other (w := W) (r := D) (by omega)).trans x4) : (W.putObj D (.deferred none)).heap[n0 + 1]? = _) 0 _ rfl
    have y7 := blk_at (((World.putObj_heap_other (w := W) (r := D) (by omega)).trans x5) : (W.putObj D (.deferred none)).heap[n0 + 1 + 1]? = _) 0 _ rfl
    obtain ⟨q, hq⟩ := hpre
    have ho : OwnR fS 1 (W.putObj D (.deferred none)) w.heap.size 9 v pr.reverse := by
      have h := OwnR.grown x6 (grownBy_putObj' W D (.deferred none)) (.inr (own_off x6 (.inr ⟨_, HK.out, rfl⟩)))
      exact ⟨h.1, h.2.imp id (fun ⟨g9, c9, cur, h1, h2, h3⟩ => ⟨g9, c9, cur, h1, by omega, h3⟩)⟩
    exact ⟨.tuple #[v, .bool true], by simp [results, Try.results43, go_sem, y6, y7], _, _, rfl, ⟨x3.trans ⟨rfl, rfl, rfl, by simp, fun k hk => World.putObj_heap_other (by omega)⟩, fun _ => ⟨pr, q, by rw [← hq, x1]; simp, x2, ho⟩, fun e => by cases e⟩⟩
theorem path_any {w0 w : World} {g : Nat} {f : Fo} (hf : Fw w0 g f w) (hrz : f.root.size ≤ maxLen) (hbz : ∀ x ∈ f.nodes, x.b.just.block.size ≤ maxLen) (s t : ByteArray) (htz : t.size ≤ maxLen) (xs : List ByteArray) (hx : Upx f t xs) (hxl : xs.length ≤ 1000) :
    Calls Try.prog 43 #[.pointer (some ⟨g, 0, none⟩), .string s, .string t] w fun e W' => ∃ v ok, e = .returned (.tuple #[v, .bool ok]) ∧ Pa s xs w v ok W' := callsIn_wide.1 (path_in hf hrz hbz s t htz xs hx hxl)
/-- is it on the way? -/
theorem Pa.ok_iff {s : ByteArray} {xs : List ByteArray} {w W : World} {v : Value} {ok : Bool} (h : Pa s xs w v ok W) : ok = amg xs s := by
  cases ok with
  | true =>
    obtain ⟨pre, post, e, -, -⟩ := h.yes rfl
    have : amg xs s = true := amg_yes (i := pre.length) (by rw [e]; simp)
    exact this.symm
  | false =>
    exact (amg_no (fun j y hy e => (h.no rfl).1 y (List.mem_of_getElem? hy) e.symm)).symm
set_option maxHeartbeats 1000000 in
theorem extends_any {w0 w : World} {g : Nat} {f : Fo} (hf : Fw w0 g f w) (hrz : f.root.size ≤ maxLen) (hbz : ∀ x ∈ f.nodes, x.b.just.block.size ≤ maxLen) (t s : ByteArray) (htz : t.size ≤ maxLen) (xs : List ByteArray) (hx : Upx f t xs) (hxl : xs.length ≤ 1000) (r : Bool) (hr : amg xs s = r) :
    Calls Try.prog 46 #[.pointer (some ⟨g, 0, none⟩), .string t, .string s] w fun e W' => e = .returned (.bool r) ∧ RowKit.Below w.heap.size w W' := by
  have HP := Sd.mk (path_any hf hrz hbz s t htz xs hx hxl)
  have HR := Sd.mk hr
  clear hf hrz hbz hx hr
  go_enter Try.func46, Try.ntmps46
  go_wp2_with (first
    | (go_at_call 43; (with_reducible refine HP.out.mono ?_); rintro e w1 ⟨v, ok, rfl, hp⟩; have HPA := Sd.mk hp; clear hp))
  go_ret
  exact ⟨by rw [← HR.out, ← HPA.out.ok_iff]; rfl, HPA.out.bel⟩
-- L1>
end Go.Proofs.Ytnomgkmeomlccaa.Fst
set_option linter.unusedVariables false
set_option linter.unusedSimpArgs false
namespace Go.Proofs.Ytnomgkmeomlccaa.Fst
open Go.RowKit Go.Sort Rd Api _root_.Go.Proofs.Ytnomgkmeomlccaa.Own Mv App Num Dig
open Blk (Block Rq rqN fR digB coreB)
open Kee (Bk fB bkK Wk)
open Wtx (fS info_str)

theorem So.out {w W W' : World} {v : Value} {l : List ByteArray} (hb : RowKit.Below w.heap.size w W) (h : So W v l W') : So w v l W' :=
  ⟨⟨h.own.1, h.own.2.imp id (fun ⟨g9, c9, cur, h1, h2, h3⟩ => ⟨g9, c9, cur, h1, Nat.le_trans hb.size h2, h3⟩)⟩, below_then hb h.bel⟩
-- <L1
set_option maxHeartbeats 8000000 in
set_option maxRecDepth 100000 in
theorem rup_any {w0 W : World} {f : Fo} {An Ao : Option Addr} {nn cn no co : Nat} (hv : Rv w0 f (.slice An nn cn) (.slice Ao no co) W) (h : ByteArray) (xs : List ByteArray) (hx : Upx f h xs) (hxl : xs.length ≤ f.nodes.length + 1) (h1000 : xs.length ≤ 1000) :
    Calls Try.prog 84 #[.agg #[.string f.root, .int .i64 f.height, .slice An nn cn, .slice Ao no co], .string h] W fun e w' => ∃ A c, e = .returned (.slice A xs.length c) ∧ So W (.slice A xs.length c) xs w' := by
  have mixed : Try.prog.follows .mixedOrders = true := by kernel_rfl
  obtain ⟨An', cn', Ao', co', is, js, e1, e2, s1, s2, a1, a2⟩ := hv.open
  simp only [Value.slice.injEq] at e1 e2
  obtain ⟨rfl, hnn, rfl⟩ := e1
  obtain ⟨rfl, hno, rfl⟩ := e2
  have b0 := below_one W (.cells #[.string f.root, .int .i64 f.height, .slice An nn cn, .slice Ao no co] 70)
  have EF := Sd.mk (blk_new W (.cells #[.string f.root, .int .i64 f.height, .slice An nn cn, .slice Ao no co] 70))
  have HB := Sd.mk b0
  have HV := Sd.mk hv
  have HS := Sd.mk s1
  have HA := Sd.mk a1
  have HNN := Sd.mk hnn
  have HX := Sd.mk hx
  have nc1 := s1.le
  have nc2 := s1.cap
  rw [a1.len, List.length_map, ← hnn] at nc1
  rw [← hnn] at hxl
  have HXL := Sd.mk (And.intro hxl h1000)
  clear hv s1 s2 a1 a2 b0 hnn hno hx hxl
  go_enter Try.func84, Try.ntmps84
  go_wp2
  generalize W.heap.size = g2 at EF ⊢
  generalize W.alloc _ = W1 at EF HB ⊢
  have HSO := Sd.mk (so_nil W1)
  go_loopg [1, 5, 6] xs.length (fun gk v1 v5 v6 wr => ∃ k s', k + gk = xs.length ∧ v1 = .string s' ∧ v6 = .int .i64 (k : Nat) ∧ Sd ((k = 0 ∧ Upx f s' xs) ∨ (k < xs.length ∧ Up f s' (xs.drop k))) ∧ Sd (So W1 v5 (xs.take k) wr))
  case atStart => exact ⟨0, h, by omega, rfl, rfl, ⟨.inl ⟨rfl, HX.out⟩⟩, ⟨by rw [List.take_zero]; exact HSO.out⟩⟩
  case round =>
    clear HSO HX
    obtain ⟨k, s', hk, rfl, rfl, HC, HO⟩ := hrel
    have HBR := Sd.mk HO.out.bel
    have hkn : (k : Int) ≤ (nn : Int) := by
      have := HXL.out.1
      rcases HC.out with ⟨e, -⟩ | ⟨e, -⟩ <;> omega
    have hkn2 : k ≤ nn := by omega
    have EF2 := Sd.mk (blk_keep EF.out HBR.out)
    have HV2 := Sd.mk (HV.out.below (below_then HB.out HBR.out))
    obtain ⟨hs, hhs⟩ : ∃ z, f.has s' = z := ⟨_, rfl⟩
    have HHS := Sd.mk (fun W2 (hb : RowKit.Below wr.heap.size wr W2) => rhas_any (HV2.out.below hb) s' hs hhs)
    have HH := Sd.mk hhs
    have hk0 : k ≤ 1000 := by have := HXL.out.2; omega
    have HTL := Sd.mk (show (xs.take k).length = k by rw [List.length_take]; omega)
    obtain ⟨A3, c3', e3⟩ := OwnR.slice HO.out.own
    subst e3
    rw [HTL.out] at HO ⊢
    clear hhs
    (have c0 := blk_at EF2.out 0 _ rfl; have c1 := blk_at EF2.out 1 _ rfl; have c2 := blk_at EF2.out 2 _ rfl; have c3 := blk_at EF2.out 3 _ rfl)
    cases hs with
    | false =>
      have hxs : xs = [] := by
        rcases HC.out with ⟨-, ⟨-, e⟩ | e⟩ | ⟨-, e⟩
        · exact e
        · have := e.has; rw [HH.out] at this; cases this
        · have := e.has; rw [HH.out] at this; cases this
      subst hxs
      go_wp2_with (first
        | (go_at_call 78; (with_reducible refine (HHS.out _ (Below.refl _ _)).mono ?_); rintro e w2 ⟨rfl, hb⟩; have HB2 := Sd.mk hb; clear hb))
      go_ret
      exact ⟨none, 0, rfl, OwnR.nil _ _ _ _ _, below_then HB.out (below_then HO.out.bel HB2.out)⟩
    | true =>
      have HUP := Sd.mk (show Up f s' (xs.drop k) from by
        rcases HC.out with ⟨hk0, ⟨h1, -⟩ | h2⟩ | ⟨-, h3⟩
        · rw [HH.out] at h1; cases h1
        · rw [hk0]; exact h2
        · exact h3)
      obtain ⟨rl, hrl⟩ := HUP.out.head
      have hkl : k < xs.length := by
        rcases Nat.lt_or_ge k xs.length with e | e
        · exact e
        · rw [List.drop_of_length_le e] at hrl; cases hrl
      have HTK := Sd.mk (show xs.take (k + 1) = xs.take k ++ [s'] by
        have e0 : xs[k]? = some s' := by rw [← List.head?_drop, hrl]; rfl
        rw [List.take_add_one, e0]; rfl)
      obtain ⟨out, hout⟩ : ∃ out, xs.take k = out := ⟨_, rfl⟩
      rw [hout] at HTK HTL HO
      clear hrl hout HC HH
      rcases Decidable.em (s' = f.root) with er | er
      · have kr : (s'.toList == f.root.toList) = true := by rw [Rp.str_beq]; exact decide_eq_true er
        have HD := Sd.mk (show xs = out ++ [s'] ∧ xs.length = k + 1 from by
          have h1 := HUP.out.last er
          have h2 := congrArg List.length h1
          rw [List.length_drop] at h2
          simp at h2
          have h3 : xs.length = k + 1 := by omega
          exact ⟨by rw [← HTK.out, List.take_of_length_le (by omega)], h3⟩)
        clear er
        go_wp2_with (first
          | (go_at_call 78; (with_reducible refine (HHS.out _ (Below.refl _ _)).mono ?_); rintro e w2 ⟨rfl, hb⟩; have HO2 := Sd.mk (HO.out.below hb); have EF3 := Sd.mk (blk_keep EF2.out hb); clear hb; (clear c0 c1 c2 c3))
          | ((at_builtin; refine append_one (f := fS) (n := 1) (fun _ => rfl) fS_one W1.heap.size rfl (.tmp 18) (.tmp 20) 49 9 (.string ByteArray.empty) 16 rfl Try.underlying49 info_str rfl (by decide) (.slice A3 k c3') out s' rfl rfl HO2.out.own HO2.out.bel HO2.out.bel.size (by rw [HTL.out]; omega) (by rw [HTL.out]; omega) ?_; intro v9 w9 hown hbel hgr; have HO9 := Sd.mk (So.mk hown hbel); clear hown hbel hgr; obtain ⟨A9, c9, e9⟩ := OwnR.slice HO9.out.own; subst e9; rw [List.length_append, HTL.out] at HO9 ⊢); have EF4 := Sd.mk (blk_keep EF.out HO9.out.bel); have c0 := blk_at EF4.out 0 _ rfl))
        go_ret
        rw [HD.out.2]
        exact ⟨_, _, rfl, So.out HB.out (by rw [HD.out.1]; exact HO9.out)⟩
      · have kr : (s'.toList == f.root.toList) = false := by rw [Rp.str_beq]; exact decide_eq_false er
        obtain ⟨x, r, g1, g2', g3⟩ := HUP.out.next er
        have HD := Sd.mk (show Up f x.b.just.block (xs.drop (k + 1)) by rw [← List.drop_drop, g1]; exact g3)
        have hlt2 : k + 1 < xs.length := by
          obtain ⟨q, hq⟩ := HD.out.head
          rcases Nat.lt_or_ge (k + 1) xs.length with e | e
          · exact e
          · rw [List.drop_of_length_le e] at hq; cases hq
        obtain ⟨i, hi⟩ : ∃ i, atI (f.nodes.map (·.b)) s' = some i := by
          have := atI_node (l := f.nodes) (h := s')
          rw [g2'] at this
          exact Option.isSome_iff_exists.1 this.symm
        obtain ⟨y, hy, hn⟩ := atI_some hi
        rw [g2'] at hn
        cases Option.some.inj hn
        have hin : i < nn := by rw [HNN.out]; exact (List.getElem?_eq_some_iff.1 hy).1
        obtain ⟨t, ht⟩ : ∃ z, is[i]? = some z := ⟨is[i]'(by rw [HA.out.len, List.length_map, ← HNN.out]; exact hin), List.getElem?_eq_getElem _⟩
        obtain ⟨b3, o3, rfl, -, -, -, -, p4, -, -⟩ := it_at HS.out.row ht (HA.out.get ht (show (f.nodes.map (·.b))[i]? = some x.b by rw [List.getElem?_map, hy]; rfl))
        have HP4 := Sd.mk p4
        have HAT := Sd.mk (fun W2 (hb : RowKit.Below W.heap.size W W2) => at_any w0 W2 (some ⟨b3, o3, none⟩) cn is (f.nodes.map (·.b)) (HS.out.below hb) HA.out nn (by rw [List.length_map]; exact HNN.out) s' (i : Int) (by rw [hi]; rfl))
        have ii0 : (0 : Int) ≤ (i : Int) := by omega
        have ii1 : (i : Int) < (nn : Int) := by omega
        have ii2 : ((i : Int)).toNat = i := by omega
        clear er g1 g2' g3 hi hy hn ht p4
        go_upto_region 10 with (first
          | (go_at_call 78; (with_reducible refine (HHS.out _ (Below.refl _ _)).mono ?_); rintro e w2 ⟨rfl, hb⟩; have HO2 := Sd.mk (HO.out.below hb); have EF3 := Sd.mk (blk_keep EF2.out hb); clear hb; (clear c0 c1 c2 c3))
          | ((at_builtin; refine append_one (f := fS) (n := 1) (fun _ => rfl) fS_one W1.heap.size rfl (.tmp 18) (.tmp 20) 49 9 (.string ByteArray.empty) 16 rfl Try.underlying49 info_str rfl (by decide) (.slice A3 k c3') out s' rfl rfl HO2.out.own HO2.out.bel HO2.out.bel.size (by rw [HTL.out]; omega) (by rw [HTL.out]; omega) ?_; intro v9 w9 hown hbel hgr; have HO9 := Sd.mk (So.mk hown hbel); clear hown hbel hgr; obtain ⟨A9, c9, e9⟩ := OwnR.slice HO9.out.own; subst e9; rw [List.length_append, HTL.out] at HO9 ⊢); have EF4 := Sd.mk (blk_keep EF.out HO9.out.bel); have c0 := blk_at EF4.out 0 _ rfl))
        clear c0
        have c2 := fun d os => cell_regrown (blk_at EF4.out 2 _ rfl) d os
        have q4 := fun d os => cell_regrown (cell_below (below_then HB.out HO9.out.bel) HP4.out) d os
        refine wp_region_quiet_below (by assumption) (by kernel_rfl) ?_
        repeat (go_big_quiet_step ((go_at_call 79; with_reducible refine Calls.regrown_of (HAT.out _ (below_then (below_then HB.out HO9.out.bel) (below_regrown _ _ _))))))
        refine wpQuiet_nil ?_
        rintro W9 ⟨⟨nq, osq⟩, rfl⟩
        have HO10 := Sd.mk (HO9.out.below (below_regrown w9 nq osq))
        go_wp2
        go_roundg (gk - 1)
        case measure => omega
        case rel => exact ⟨k + 1, x.b.just.block, by omega, rfl, by go_num, ⟨.inr ⟨hlt2, HD.out⟩⟩, ⟨by rw [HTK.out]; exact HO10.out⟩⟩
set_option maxHeartbeats 8000000 in
set_option maxRecDepth 100000 in
theorem rpath_any {w0 W : World} {f : Fo} {An Ao : Option Addr} {nn cn no co : Nat} (hv : Rv w0 f (.slice An nn cn) (.slice Ao no co) W) (s t : ByteArray) (xs : List ByteArray) (hx : Upx f t xs) (hxl : xs.length ≤ f.nodes.length + 1) (h1000 : xs.length ≤ 1000) :
    Calls Try.prog 44 #[.agg #[.string f.root, .int .i64 f.height, .slice An nn cn, .slice Ao no co], .string s, .string t] W fun e w' => ∃ A n c ok, e = .returned (.tuple #[.slice A n c, .bool ok]) ∧ Pa s xs W (.slice A n c) ok w' := by
  have b0 := below_one W (.cells #[.string f.root, .int .i64 f.height, .slice An nn cn, .slice Ao no co] 70)
  have EF := Sd.mk (blk_new W (.cells #[.string f.root, .int .i64 f.height, .slice An nn cn, .slice Ao no co] 70))
  have HB := Sd.mk b0
  have HUP := Sd.mk (rup_any (hv.below b0) t xs hx hxl h1000)
  obtain ⟨n, hn⟩ : ∃ n, xs.length = n := ⟨_, rfl⟩
  rw [hn] at HUP h1000
  have HN := Sd.mk hn
  clear hv b0 hx hxl hn
  go_enter Try.func44, Try.ntmps44
  go_upto_region 1 with (fail)
  generalize W.heap.size = g3 at EF ⊢
  generalize W.alloc _ = W1 at EF HB HUP ⊢
  (have c0 := blk_at EF.out 0 _ rfl; have c1 := blk_at EF.out 1 _ rfl; have c2 := blk_at EF.out 2 _ rfl; have c3 := blk_at EF.out 3 _ rfl)
  go_upto_region 2 with (first
    | (go_at_call 84; (with_reducible refine HUP.out.mono ?_); rintro e w2 ⟨Al, cl, rfl, ho⟩; have HO := Sd.mk ho; clear ho))
  (clear c0 c1 c2 c3)
  clear HUP EF
  obtain ⟨A9, c9, e9, hsl⟩ := own_str HO.out.own
  rw [HN.out] at e9
  simp only [Value.slice.injEq, true_and] at e9
  obtain ⟨rfl, rfl⟩ := e9
  have HSL := Sd.mk hsl
  have HB2 := Sd.mk (below_then HB.out HO.out.bel)
  have nc := Nat.le_trans hsl.le hsl.cap
  rw [HN.out] at nc
  clear hsl HO HB
  go_wp2
  go_loopg [9] n (fun gk v9 wr => ∃ i, i + gk = n ∧ v9 = .int .i64 (i : Nat) ∧ Sd (∀ (j : Nat) (y : ByteArray), j < i → xs[j]? = some y → y ≠ s) ∧ wr = w2)
  case atStart => exact ⟨0, by omega, rfl, ⟨fun j y hj => by omega⟩, rfl⟩
  case round =>
    obtain ⟨i, hi, rfl, HD, rfl⟩ := hrel
    obtain ⟨wo, rfl⟩ : ∃ wo : World, wo = wr := ⟨_, rfl⟩
    by_cases hlt : i < n
    · have hii : (i : Int) < n := by omega
      obtain ⟨y, hy⟩ : ∃ y, xs[i]? = some y := ⟨xs[i]'(by rw [HN.out]; exact hlt), List.getElem?_eq_getElem _⟩
      obtain ⟨g1, o1, e1, p0⟩ := strN_at HSL.out.row hy
      subst e1
      rcases Decidable.em (y = s) with e | e
      · have he : (y.toList == s.toList) = true := by rw [Rp.str_beq]; exact decide_eq_true e
        have HXS := Sd.mk (show xs = xs.take i ++ s :: xs.drop (i + 1) from by
          rw [← e]
          conv => lhs; rw [← List.take_append_drop i xs]
          congr 1
          exact (List.getElem?_eq_some_iff.1 hy).2 ▸ List.drop_eq_getElem_cons (by rw [HN.out]; exact hlt))
        have HPR := Sd.mk (show ∀ z ∈ xs.take i, z ≠ s from fun z hz => by
          obtain ⟨j, hj⟩ := List.getElem?_of_mem hz
          have hjl := (List.getElem?_eq_some_iff.1 hj).1
          rw [List.length_take] at hjl
          exact HD.out j z (by omega) (by rw [← hj, List.getElem?_take_of_lt (by omega)]))
        have HTI := Sd.mk (show (xs.take i).length = i by rw [List.length_take, HN.out]; omega)
        have HTA := Sd.mk (fun (j : Nat) (z : ByteArray) (hz : (xs.take i)[j]? = some z) => (show ∃ g o, (some ⟨g1, o1, none⟩ : Option Addr) = some ⟨g, o, none⟩ ∧ wo.cell? ⟨g, o + j, none⟩ = some (.string z) from strN_at HSL.out.row (by
          have hjl := (List.getElem?_eq_some_iff.1 hz).1
          rw [HTI.out] at hjl
          rw [← hz, List.getElem?_take_of_lt hjl])))
        obtain ⟨ps, hps⟩ : ∃ ps, xs.take i = ps := ⟨_, rfl⟩
        rw [hps] at HXS HPR HTI HTA
        clear e hy HD hps
        go_upto_region 8 with (fail)
        clear p0 he
        go_loopg [10, 11] i (fun gk v10 v11 wr => ∃ (q : Nat) (z : Int), gk = q ∧ q ≤ i ∧ z = (q : Int) - 1 ∧ v11 = .int .i64 z ∧ Sd (So wo v10 ((ps.drop q).reverse) wr))
        case atStart => exact ⟨i, _, rfl, Nat.le_refl _, rfl, rfl, ⟨by rw [List.drop_of_length_le (by rw [HTI.out]; exact Nat.le_refl _)]; exact so_nil _⟩⟩
        case round =>
          obtain ⟨q, z, rfl, hqi, hz, rfl, HO⟩ := hrel
          rcases Nat.eq_zero_or_pos gk with h0 | h0
          · subst h0
            obtain rfl : z = -1 := by omega
            clear hz
            obtain ⟨A5, c5, e5⟩ := OwnR.slice HO.out.own
            subst e5
            go_wp2
            go_ret2
            exact ⟨_, _, _, true, rfl, ⟨below_then HB2.out HO.out.bel, fun _ => ⟨ps, _, HXS.out, HPR.out, by have h := (So.out HB2.out HO.out).own; rwa [List.drop_zero] at h⟩, fun e => by cases e⟩⟩
          · obtain ⟨p, rfl⟩ : ∃ p, gk = p + 1 := ⟨gk - 1, by omega⟩
            obtain rfl : z = (p : Int) := by omega
            clear hz
            obtain ⟨y2, hy2⟩ : ∃ y, ps[p]? = some y := ⟨ps[p]'(by rw [HTI.out]; omega), List.getElem?_eq_getElem _⟩
            obtain ⟨g1', o1', e1', q0⟩ := HTA.out p y2 hy2
            cases e1'
            have q0 := cell_below HO.out.bel q0
            have HST := Sd.mk (show (ps.drop p).reverse = (ps.drop (p + 1)).reverse ++ [y2] by
              rw [List.drop_eq_getElem_cons (by rw [HTI.out]; omega), List.reverse_cons, (List.getElem?_eq_some_iff.1 hy2).2])
            have HTL := Sd.mk (show ((ps.drop (p + 1)).reverse).length = i - (p + 1) by rw [List.length_reverse, List.length_drop, HTI.out])
            obtain ⟨out, hout⟩ : ∃ out, (ps.drop (p + 1)).reverse = out := ⟨_, rfl⟩
            rw [hout] at HST HTL HO
            obtain ⟨A5, c5, e5⟩ := OwnR.slice HO.out.own
            subst e5
            obtain ⟨m, hm⟩ : ∃ m, i - (p + 1) = m := ⟨_, rfl⟩
            have hm1 : m ≤ 1000 := by omega
            rw [hm] at HTL
            rw [HTL.out] at HO ⊢
            have kp0 : (0 : Int) ≤ (p : Int) := by omega
            have kp1 : (p : Int) < (n : Int) := by omega
            clear hy2 hout hm
            go_wp2_with (first
              | (at_builtin; refine append_one (f := fS) (n := 1) (fun _ => rfl) fS_one wo.heap.size rfl (.tmp 33) (.tmp 38) 49 9 (.string ByteArray.empty) 16 rfl Try.underlying49 info_str rfl (by decide) (.slice A5 m c5) out y2 rfl rfl HO.out.own HO.out.bel HO.out.bel.size (by rw [HTL.out]; omega) (by rw [HTL.out]; omega) ?_; intro v9 w9 hown hbel hgr; have HO9 := Sd.mk (So.mk hown hbel); clear hown hbel hgr))
            go_roundg p
            case measure => omega
            case rel => exact ⟨p, (p : Int) - 1, rfl, by omega, rfl, rfl, ⟨by rw [HST.out]; exact HO9.out⟩⟩
      · have he : (y.toList == s.toList) = false := by rw [Rp.str_beq]; exact decide_eq_false e
        have HD2 := Sd.mk (show ∀ (j : Nat) (z : ByteArray), j < i + 1 → xs[j]? = some z → z ≠ s from fun j z hj hz => by
          rcases Nat.lt_or_ge j i with e2 | e2
          · exact HD.out j z e2 hz
          · rw [show j = i by omega, hy] at hz
            cases Option.some.inj hz
            exact e)
        clear e hy
        go_wp2
        go_roundg (gk - 1)
        case measure => omega
        case rel => exact ⟨i + 1, by omega, by go_num, HD2, rfl⟩
    · have hii : decide (i < n) = false := decide_eq_false (by omega)
      have hii2 : decide ((i : Int) < (n : Int)) = false := decide_eq_false (by omega)
      go_wp2
      go_ret2
      exact ⟨none, 0, 0, false, rfl, ⟨HB2.out, fun e => (by cases e), fun _ => ⟨fun y hy => (by
        obtain ⟨j, hj⟩ := List.getElem?_of_mem hy
        exact HD.out j y (by have := (List.getElem?_eq_some_iff.1 hj).1; rw [HN.out] at this; omega) hj), rfl⟩⟩⟩
set_option maxHeartbeats 4000000 in
set_option maxRecDepth 100000 in
theorem same_eq (w : World) (A B : Option Addr) (c d : Nat) (l : List ByteArray) (h1 : Sl strN w A c l) (h2 : Sl strN w B d l) (n : Nat) (hn : l.length = n) :
    Calls Try.prog 45 #[.slice A n c, .slice B n d] w fun e w' => e = .returned (.bool true) ∧ RowKit.Below w.heap.size w w' := by
  have mixed : Try.prog.follows .mixedOrders = true := by kernel_rfl
  have HS1 := Sd.mk h1
  have HS2 := Sd.mk h2
  have HN := Sd.mk hn
  have nc := Nat.le_trans h1.le h1.cap
  rw [hn] at nc
  clear h1 h2 hn
  go_enter Try.func45, Try.ntmps45
  go_wp2
  go_loopg [5] n (fun gk v5 wr => ∃ i, i + gk = n ∧ v5 = .int .i64 (i : Nat) ∧ Sd (RowKit.Below w.heap.size w wr))
  case atStart => exact ⟨0, by omega, rfl, ⟨Below.refl _ _⟩⟩
  case round =>
    obtain ⟨i, hi, rfl, HB⟩ := hrel
    by_cases hlt : i < n
    · have hii : (i : Int) < n := by omega
      have hi0 : (0 : Int) ≤ (i : Int) := by omega
      obtain ⟨y, hy⟩ : ∃ y, l[i]? = some y := ⟨l[i]'(by rw [HN.out]; exact hlt), List.getElem?_eq_getElem _⟩
      obtain ⟨g1, o1, rfl, p0⟩ := strN_at HS1.out.row hy
      obtain ⟨g2, o2, rfl, q0⟩ := strN_at HS2.out.row hy
      have p0 := cell_below HB.out p0
      have q0 := cell_below HB.out q0
      have he : (y.toList == y.toList) = true := beq_self_eq_true _
      have hen : (y.toList != y.toList) = false := by rw [bne, he]; rfl
      clear hy
      go_upto_region 6 with (fail)
      go_quiet (fail)
      have HB2 := Sd.mk (below_drewN HB.out nq)
      clear p0 q0 he hen HB
      generalize wr.drewN nq = W3 at HB2 ⊢
      go_wp2
      go_roundg (gk - 1)
      case measure => omega
      case rel => exact ⟨i + 1, by omega, by go_num, HB2⟩
    · have hii : decide (i < n) = false := decide_eq_false (by omega)
      have hii2 : decide ((i : Int) < (n : Int)) = false := decide_eq_false (by omega)
      go_wp2
      go_ret
      exact ⟨rfl, HB.out⟩
/-- no more stand, or wait, than came -/
theorem cnt_adopt : ∀ (n : Nat) (f : Fo), (f.adopt n).nodes.length + (f.adopt n).orph.length ≤ f.nodes.length + f.orph.length
  | 0, f => Nat.le_refl _
  | n + 1, f => by
    cases hf : f.first with
    | none => rw [adopt_none hf]; exact Nat.le_refl _
    | some i =>
      obtain ⟨b, hb, -⟩ := first_some hf
      rw [adopt_some hf hb]
      have h := cnt_adopt n ((f.less i).fput b)
      have hl := less_len hb
      have e : ((f.less i).fput b).nodes.length ≤ f.nodes.length + 1 := by
        unfold Fo.fput
        split
        · simp [Fo.more, Fo.less]
        · simp [Fo.less]
      rw [fput_orph] at h
      omega
theorem cnt_put (f : Fo) (b : Block) : (f.put b).2.nodes.length + (f.put b).2.orph.length ≤ f.nodes.length + f.orph.length + 1 := by
  unfold Fo.put
  split
  · simp
  · split
    · split
      · have := cnt_adopt 10 (f.more b)
        simp only [Fo.more, List.length_append, List.length_singleton] at this ⊢
        omega
      · simp
    · split
      · simp
      · simp
        omega
theorem cnt_bld (bs : List Block) : (bld bs).nodes.length + (bld bs).orph.length ≤ bs.length :=
  Kee.snoc_ind (P := fun bs => (bld bs).nodes.length + (bld bs).orph.length ≤ bs.length) (by simp [bld, F0]) (fun l x ih => by
    rw [bld_snoc, List.length_append]
    have := cnt_put (bld l) x
    simp
    omega) _ bs rfl
/-- the way ahead of the first one of these is one -/
theorem pre_uniq {s : ByteArray} : ∀ {p q u v : List ByteArray}, p ++ s :: u = q ++ s :: v → (∀ y ∈ p, y ≠ s) → (∀ y ∈ q, y ≠ s) → p = q
  | [], [], _, _, _, _, _ => rfl
  | [], b :: q, _, _, e, _, h2 => by simp at e; exact absurd e.1.symm (h2 b (by simp))
  | a :: p, [], _, _, e, h1, _ => by simp at e; exact absurd e.1 (h1 a (by simp))
  | a :: p, b :: q, u, v, e, h1, h2 => by
    simp only [List.cons_append, List.cons.injEq] at e
    rw [e.1, pre_uniq e.2 (fun y hy => h1 y (by simp [hy])) (fun y hy => h2 y (by simp [hy]))]
-- L1>
end Go.Proofs.Ytnomgkmeomlccaa.Fst
