/- What lives on: facts of a world that stay where only new blocks are made, or written. -/
import Derived.Test.YtnomgkmeomlccaaGreatOwn
import Derived.Deep.Draws
import Derived.Deep.QuietTactic
import Derived.BigQuiet
set_option linter.unusedVariables false
set_option linter.unusedSimpArgs false
namespace Go.Proofs.YtnomgkmeomlccaaGreat.Mv
open Go.RowKit Rd Api Own

structure Mv (S : World → Prop) : Prop where
  below : ∀ {W W1 : World}, S W → Below W.heap.size W W1 → S W1
  set : ∀ {W0 W : World} {k : Nat} (j : Nat) (u : Value), S W0 → S W → W0.heap.size ≤ k → S (W.setCell ⟨k, j, none⟩ u)
theorem Mv.alloc {S : World → Prop} (h : Mv S) {W : World} (hs : S W) (o : Obj) : S (W.alloc o) := h.below hs (below_one W o)
theorem Mv.drew {S : World → Prop} (h : Mv S) {W : World} (hs : S W) : S W.drew := h.below hs ⟨rfl, rfl, rfl, Nat.le_refl _, fun _ _ => rfl⟩
theorem Mv.drewN {S : World → Prop} (h : Mv S) {W : World} (hs : S W) (n : Nat) : S (W.drewN n) := h.below hs ⟨rfl, rfl, rfl, Nat.le_refl _, fun _ _ => rfl⟩
theorem below_drewN {B : Nat} {w W : World} (h : Below B w W) (n : Nat) : Below B w (W.drewN n) := ⟨h.os, h.tape, h.output, h.size, h.block⟩
theorem below_drew' {B : Nat} {w W : World} (h : Below B w W) : Below B w W.drew := ⟨h.os, h.tape, h.output, h.size, h.block⟩
theorem heap_set (W : World) (k j : Nat) (u : Value) (i : Nat) (hi : i ≠ k) : (W.setCell ⟨k, j, none⟩ u).heap[i]? = W.heap[i]? := Below.heap_setCell W ⟨k, j, none⟩ u i hi
theorem cell_set {W : World} {a : Addr} {k j : Nat} {u v : Value} (hc : W.cell? a = some v) (hne : a.block ≠ k) : (W.setCell ⟨k, j, none⟩ u).cell? a = some v := by
  have := heap_set W k j u a.block hne
  unfold World.cell? at hc ⊢
  rw [this]
  exact hc
theorem mv_and {S T : World → Prop} (h : Mv S) (k : Mv T) : Mv (fun W => S W ∧ T W) := ⟨fun a b => ⟨h.below a.1 b, k.below a.2 b⟩, fun j u a b c => ⟨h.set j u a.1 b.1 c, k.set j u a.2 b.2 c⟩⟩
theorem mv_blk (g : Nat) (o : Obj) : Mv (fun W => W.heap[g]? = some o) := ⟨fun a b => blk_keep a b, fun j u a b c => (heap_set _ _ j u g (by have := blk_lt' a; omega)).trans b⟩
theorem mv_bel (w : World) : Mv (fun W => Below w.heap.size w W) := ⟨fun a b => below_then a b, fun j u a b c => b.setCell (by have := a.size; simp only; omega) _⟩
theorem mv_cell (a : Addr) (v : Value) : Mv (fun W => W.cell? a = some v) := ⟨fun a b => cell_below b a, fun j u a b c => cell_set b (by have := World.block_lt_of_cell? _ _ a; omega)⟩
theorem mv_own {α : Type} (f : α → List Value) (n base : Nat) (e : TypeId) (v : Value) (xs : List α) : Mv (fun W => OwnR f n W base e v xs) :=
  ⟨fun a b => OwnR.below a b, fun j u a b c => OwnR.grown b (row := some _) ⟨rfl, rfl, rfl, by simp [World.setCell], fun i hi hr => heap_set _ _ j u i (fun e => hr (by rw [e]))⟩ (.inr (fun e => by have := (OwnR.ge a e).2; omega))⟩
theorem mv_const (p : Prop) : Mv (fun _ => p) := ⟨fun a _ => a, fun _ _ a _ _ => a⟩
theorem blk_set3 {W : World} {g : Nat} {t : TypeId} {cs : Array Value} (h : W.heap[g]? = some (.cells cs t (0, 0))) (i : Nat) (u : Value) : (W.setCell ⟨g, i, none⟩ u).heap[g]? = some (.cells (cs.setIfInBounds i u) t (0, 0)) := by
  have hlt := blk_lt' h
  unfold World.setCell
  simp only [Array.getElem?_modify, if_true, h, Option.map_some, Option.isSome_none, Bool.false_eq_true, if_false]
theorem two_after {w1 w' : World} {a b : Value} {t : TypeId} (hb : Below (w1.alloc (.cells #[a, b] t)).drew.heap.size (w1.alloc (.cells #[a, b] t)).drew w') : w'.heap[w1.heap.size]? = some (.cells #[a, b] t (0, 0)) :=
  (hb.block _ (by simp)).trans (blk_new w1 (.cells #[a, b] t))
end Go.Proofs.YtnomgkmeomlccaaGreat.Mv
