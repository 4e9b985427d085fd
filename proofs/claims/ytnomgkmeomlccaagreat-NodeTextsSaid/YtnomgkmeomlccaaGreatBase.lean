/- What is read of any seat: slices, blocks of one's own. -/
import Derived.Test.YtnomgkmeomlccaaGreatProg
import Derived.Test.YtnomgkmeomlccaaGreatRd
import Derived.KernelRfl
namespace Go.Proofs.YtnomgkmeomlccaaGreat.Api
open Go.RowKit Rd

def IsI64 (n : Int) : Prop := -9223372036854775808 ≤ n ∧ n ≤ 9223372036854775807
theorem i64_of {n : Int} (h : (Lit.int .i64 n).wf = true) : IsI64 n := by
  have : -9223372036854775808 ≤ n ∧ n ≤ 9223372036854775807 := by simpa [Lit.wf, IntKind.min, IntKind.max, IntKind.bits, IntKind.signed] using h
  exact this

/-- A slice's reading. -/
structure Sl {α : Type} (d : Rk α) (w : World) (A : Option Addr) (c : Nat) (l : List α) : Prop where
  le : l.length ≤ c
  cap : c ≤ 9223372036854775807
  row : Row d w A l
theorem Sl.keep {α : Type} {d : Rk α} {w w1 : World} {A : Option Addr} {c : Nat} {l : List α} (h : Sl d w A c l) (hw : ∀ k, k < w.heap.size → w1.heap[k]? = w.heap[k]?) : Sl d w1 A c l := ⟨h.le, h.cap, h.row.keep hw⟩
theorem Sl.below {α : Type} {d : Rk α} {w w1 : World} {A : Option Addr} {c : Nat} {l : List α} (h : Sl d w A c l) (hb : Below w.heap.size w w1) : Sl d w1 A c l := ⟨h.le, h.cap, h.row.below hb⟩
theorem sl_of {α : Type} {d : Rk α} {w : World} {l : List α} {cs : List Value} (h : (Rk.slice d).K w l cs) : ∃ A c, cs = [.slice A l.length c] ∧ Sl d w A c l := by
  obtain ⟨A, c, rfl, h1, h2, h3⟩ := h
  exact ⟨A, c, rfl, h1, by unfold maxLen at h2; omega, h3⟩
theorem sl_to {α : Type} {d : Rk α} {w : World} {A : Option Addr} {c : Nat} {l : List α} (h : Sl d w A c l) : (Rk.slice d).K w l [.slice A l.length c] :=
  ⟨A, c, rfl, h.le, by unfold maxLen; have := h.cap; omega, h.row⟩

theorem arr_of {cs : Array Value} {l : List Value} (h : cs.toList = l) : cs = l.toArray := by
  cases cs; simp_all
/-- An element of a row of strings. -/
theorem str_at {w : World} {A : Option Addr} {l : List ByteArray} (h : Row Rk.str w A l) {i : Nat} (hi : i < l.length) : ∃ b o, A = some ⟨b, o, none⟩ ∧ w.cell? ⟨b, o + i, none⟩ = some (.string l[i]) ∧ l[i].size ≤ maxLen := by
  obtain ⟨b, o, cs, hA, ⟨rfl, h1⟩, hc⟩ := h i l[i] (List.getElem?_eq_getElem hi)
  have := hc 0 _ rfl
  simp only [Rk.str, Nat.mul_one, Nat.add_zero] at this
  exact ⟨b, o, hA, this, h1⟩
/-! ### a block of one's own -/
theorem blk_at {w : World} {g : Nat} {t : TypeId} {cs : Array Value} (h : w.heap[g]? = some (.cells cs t (0, 0))) (i : Nat) (v : Value) (hv : cs[i]? = some v) : w.cell? ⟨g, i, none⟩ = some v := by
  unfold World.cell?
  rw [h]
  exact hv
theorem blk_frz {w : World} {g : Nat} {t : TypeId} {cs : Array Value} (h : w.heap[g]? = some (.cells cs t (0, 0))) (i : Nat) : w.frozen? ⟨g, i, none⟩ = false := by
  unfold World.frozen?
  rw [h]
  simp
theorem blk_lt' {w : World} {g : Nat} {o : Obj} (h : w.heap[g]? = some o) : g < w.heap.size := (Array.getElem?_eq_some_iff.1 h).1
theorem blk_keep {w w1 : World} {g : Nat} {o : Obj} (h : w.heap[g]? = some o) (hb : Below w.heap.size w w1) : w1.heap[g]? = some o := (hb.block g (blk_lt' h)).trans h
theorem blk_new (w : World) (o : Obj) : (w.alloc o).heap[w.heap.size]? = some o := by
  show (w.heap.push o)[w.heap.size]? = some o
  simp
theorem blk_new1 (w : World) (a b : Obj) : ((w.alloc a).alloc b).heap[w.heap.size + 1]? = some b := by
  have := blk_new (w.alloc a) b
  simpa using this
theorem blk_new2 (w : World) (a b c : Obj) : (((w.alloc a).alloc b).alloc c).heap[w.heap.size + 1 + 1]? = some c := by
  have := blk_new ((w.alloc a).alloc b) c
  simpa using this
theorem below_then {w W w2 : World} (h : Below w.heap.size w W) (k : Below W.heap.size W w2) : Below w.heap.size w w2 :=
  h.trans ⟨k.os, k.tape, k.output, k.size, fun i hi => k.block i (Nat.lt_of_lt_of_le hi h.size)⟩
theorem below_then' {B : Nat} {w W w2 : World} (h : Below B w W) (hB : B ≤ W.heap.size) (k : Below W.heap.size W w2) : Below B w w2 :=
  h.trans ⟨k.os, k.tape, k.output, k.size, fun i hi => k.block i (Nat.lt_of_lt_of_le hi hB)⟩
theorem below_one (w : World) (o : Obj) : Below w.heap.size w (w.alloc o) := (Below.refl _ _).alloc (Nat.le_refl _) _
theorem bcell {W w1 : World} (hb : Below W.heap.size W w1) : (∀ b o, b < W.heap.size → w1.cell? ⟨b, o, none⟩ = W.cell? ⟨b, o, none⟩) ∧ (∀ b o, b < W.heap.size → w1.frozen? ⟨b, o, none⟩ = W.frozen? ⟨b, o, none⟩) :=
  ⟨fun b o h => hb.cell (p := ⟨b, o, none⟩) h, fun b o h => hb.frozen (p := ⟨b, o, none⟩) h⟩
theorem cell_below {w w1 : World} (h : Below w.heap.size w w1) {a : Addr} {v : Value} (hc : w.cell? a = some v) : w1.cell? a = some v := cell_keep (fun k hk => h.block k hk) hc
end Go.Proofs.YtnomgkmeomlccaaGreat.Api
