/- A row of the call's own: elements that read the same in every world (numbers, strings, structs of such). -/
import Derived.Test.YtnomgkmeomlccaaGreatBase
import Derived.Maps.AppendAt
import Derived.Laws.AppendOwn
import Derived.OwnWalk
set_option linter.unusedVariables false
set_option linter.unusedSimpArgs false
namespace Go.Proofs.YtnomgkmeomlccaaGreat.Own
open Go.RowKit Rd Api

/-- A whole number, without its bounds. -/
def num (k : IntKind) : Rk Int where
  sz := 1
  K := fun _ n cs => cs = [.int k n]
  len := fun h => by rw [h]; rfl
  keep := fun _ h => h
theorem num_at {w : World} {k : IntKind} {A : Option Addr} {l : List Int} (h : Row (num k) w A l) {i : Nat} (hi : i < l.length) : ∃ b o, A = some ⟨b, o, none⟩ ∧ w.cell? ⟨b, o + i, none⟩ = some (.int k l[i]) := by
  obtain ⟨b, o, cs, hA, rfl, hc⟩ := h i l[i] (List.getElem?_eq_getElem hi)
  have := hc 0 _ rfl
  simp only [num, Nat.mul_one, Nat.add_zero] at this
  exact ⟨b, o, hA, this⟩
/-- A kind whose values read the same in every world. -/
def Flat {α : Type} (d : Rk α) (f : α → List Value) : Prop := ∀ w x, d.K w x (f x)
/-- What the cells of elements are, one behind the other. -/
def flat {α : Type} (f : α → List Value) (xs : List α) : List Value := xs.flatMap f
theorem flat_length {α : Type} {f : α → List Value} {n : Nat} (h : ∀ x, (f x).length = n) (xs : List α) : (flat f xs).length = xs.length * n := by
  induction xs with
  | nil => simp [flat]
  | cons x r ih => simp only [flat, List.flatMap_cons, List.length_append, List.length_cons] at ih ⊢; rw [h, ih, Nat.succ_mul]; omega
theorem flat_append {α : Type} (f : α → List Value) (xs : List α) (x : α) : flat f (xs ++ [x]) = flat f xs ++ f x := by
  simp [flat]
theorem flat_get {α : Type} {f : α → List Value} {n : Nat} (h : ∀ x, (f x).length = n) : ∀ (xs : List α) (j : Nat) (x : α), xs[j]? = some x → ∀ (i : Nat) (v : Value), (f x)[i]? = some v → (flat f xs)[j * n + i]? = some v
  | [], j, x, hx, _, _, _ => by simp at hx
  | y :: r, 0, x, hx, i, v, hv => by
    simp only [List.getElem?_cons_zero, Option.some.injEq] at hx
    subst hx
    have hi : i < (f y).length := by
      rcases Nat.lt_or_ge i (f y).length with h | h
      · exact h
      · rw [List.getElem?_eq_none h] at hv; cases hv
    simp only [flat, List.flatMap_cons, Nat.zero_mul, Nat.zero_add]
    rw [List.getElem?_append_left hi]
    exact hv
  | y :: r, j + 1, x, hx, i, v, hv => by
    have := flat_get h r j x (by simpa using hx) i v hv
    simp only [flat, List.flatMap_cons] at this ⊢
    rw [List.getElem?_append_right (by rw [h, Nat.succ_mul]; omega), h]
    rw [show (j + 1) * n + i - n = j * n + i by rw [Nat.succ_mul]; omega]
    exact this

/-- v is a row of the call's own (blocks from base on), of elements of type e: it holds xs. -/
def OwnR {α : Type} (f : α → List Value) (n : Nat) (W : World) (base : Nat) (e : TypeId) (v : Value) (xs : List α) : Prop := W.ownsRow base e n v xs.length (flat f xs)
section
variable {α : Type} {f : α → List Value} {n : Nat} {W W1 : World} {base : Nat} {e : TypeId} {v : Value} {xs : List α}
theorem OwnR.nil (f : α → List Value) (n : Nat) (W : World) (base : Nat) (e : TypeId) : OwnR f n W base e (.slice none 0 0) [] := ⟨by simp [flat], .inl ⟨rfl, rfl⟩⟩
theorem OwnR.below (h : OwnR f n W base e v xs) (hb : Below W.heap.size W W1) : OwnR f n W1 base e v xs := h.kept (row := none) ⟨hb.os, hb.tape, hb.output, hb.size, fun k hk _ => hb.block k hk⟩ (by cases v.ownBlock <;> simp)
theorem OwnR.blk (h : OwnR f n W base e v xs) {k : Nat} {cs : Array Value} {t : TypeId} {fr : Nat × Nat} (hk : W.heap[k]? = some (.cells cs t fr)) (ht : e ≠ t) : v.ownBlock ≠ some k := by
  rcases h.2 with ⟨rfl, _⟩ | ⟨g, cap, cur, rfl, _, hh, _⟩
  · simp [Value.ownBlock]
  · intro he
    simp only [Value.ownBlock, Option.some.injEq] at he
    subst he
    rw [hh] at hk
    simp only [Option.some.injEq, Obj.cells.injEq] at hk
    exact ht hk.2.1
theorem OwnR.ge (h : OwnR f n W base e v xs) {k : Nat} (hk : v.ownBlock = some k) : base ≤ k ∧ k < W.heap.size := by
  rcases h.2 with ⟨rfl, _⟩ | ⟨g, cap, cur, rfl, hb, hh, _⟩
  · simp [Value.ownBlock] at hk
  · simp only [Value.ownBlock, Option.some.injEq] at hk
    subst hk
    exact ⟨hb, (Array.getElem?_eq_some_iff.1 hh).1⟩
theorem OwnR.slice (h : OwnR f n W base e v xs) : ∃ A c, v = .slice A xs.length c := by
  rcases h.2 with ⟨rfl, h0⟩ | ⟨g, cap, cur, rfl, _⟩
  · exact ⟨none, 0, by rw [h0]⟩
  · exact ⟨_, cap, rfl⟩
/-- It is read as any other slice. -/
theorem OwnR.reads {d : Rk α} (hf : Flat d f) (hn : ∀ x, (f x).length = n) (hd : d.sz = n) (h : OwnR f n W base e v xs) : ∃ A c, v = .slice A xs.length c ∧ Sl d W A c xs := by
  rcases h.2 with ⟨rfl, h0⟩ | ⟨g, cap, cur, rfl, hb, hh, hle, hcap, hsz, hcur⟩
  · obtain rfl : xs = [] := List.eq_nil_of_length_eq_zero h0
    exact ⟨none, 0, rfl, Nat.le_refl _, by omega, fun j x hx => by simp at hx⟩
  · refine ⟨_, cap, rfl, hle, by unfold maxLen at hcap; omega, fun j x hx => ⟨g, 0, f x, rfl, hf W x, fun i w hv => ?_⟩⟩
    have hg := flat_get hn xs j x hx i w hv
    rw [← hcur, List.getElem?_take] at hg
    split at hg
    · unfold World.cell?
      rw [hh, hd]
      simpa using hg
    · cases hg
theorem OwnR.grown (h : OwnR f n W base e v xs) {row : Option Nat} (hg : W.grownBy W1 row) (hr : v.ownBlock = none ∨ v.ownBlock ≠ row) : OwnR f n W1 base e v xs := h.kept hg hr
end
theorem below_grown {w W W1 : World} {row : Option Nat} {B : Nat} (h : Below B w W) (hg : W.grownBy W1 row) (hB : B ≤ W.heap.size) (hr : ∀ k, row = some k → B ≤ k) : Below B w W1 := h.grown hg hB hr
theorem blk_grown {W W1 : World} {row : Option Nat} {g : Nat} {o : Obj} (h : W.heap[g]? = some o) (hg : W.grownBy W1 row) (hr : row ≠ some g) : W1.heap[g]? = some o := (hg.block g (blk_lt' h) (Ne.symm hr)).trans h

/-! ### append(v, x); the goal's world is 'W.alloc' of the box of x -/
section
variable {P : Program} {ops : Array Oper} {rest : List Oper} {o : Oper} {a : Act} {Q : Exit → Act → World → Prop}
theorem append_one {α : Type} {f : α → List Value} {n : Nat} (hn : ∀ x, (f x).length = n) (h1 : ∀ x, ∀ u ∈ f x, u.oneCell' = true) {w0 W : World} (base : Nat) (hgd : o.guard = none) (s x : Operand) (t e : TypeId) (z : Value) (bytes : Nat)
    (ho : o.op = .call { callee := .builtin .append, args := #[s, x], argTypes := #[t, t] })
    (ht : P.underlying t = some (.slice e)) (hinfo : (P.info? e).map (fun i => (i.zero, i.size, i.bytes)) = some (some z, n, bytes)) (hz : z.cells.size = n) (hn0 : 0 < n)
    (v : Value) (xs : List α) (y : α) (hs : a.eval s = v) (hx : a.eval x = .slice (some ⟨W.heap.size, 0, none⟩) 1 1)
    (HO : OwnR f n W base e v xs) (HB : Below base w0 W) (hbase : base ≤ W.heap.size) (hl : (xs.length + 1) * bytes ≤ 140737488355328) (hl2 : xs.length + 1 ≤ 9223372036854775807)
    (h : ∀ v1 w1, OwnR f n w1 base e v1 (xs ++ [y]) → Below base w0 w1 → W.grownBy w1 v.ownBlock → wpList P ops Q rest (a.put o.dst v1) w1) :
    wpList P ops Q (o :: rest) a (W.alloc (.cells (f y).toArray e)) := by
  obtain ⟨i0, hi, hzz⟩ := Option.map_eq_some_iff.1 hinfo
  simp only [Prod.mk.injEq] at hzz
  obtain ⟨hz0, hz1, hz2⟩ := hzz
  have HO2 := OwnR.below HO (below_one W (.cells (f y).toArray e))
  refine wpList_append_own_at (W.alloc (.cells (f y).toArray e)) hgd s x t ho base e i0 z n bytes ht hi hz0 hz1 hz2 hz hn0 v xs.length (flat f xs) hs HO2 ⟨W.heap.size, 0, none⟩ 1 1 (f y) hx (by rw [hn]; omega)
    (fun j u hu => ?_) (h1 y) (by unfold maxLen; omega) hl (by simp; omega) ?_
  · rw [add_flat, Nat.zero_add]
    exact blk_at (blk_new W _) j u (by simpa using hu)
  · intro v1 w1 hown hg _ _
    refine h v1 w1 (by unfold OwnR; rw [flat_append]; simpa using hown) (below_grown (below_then' HB hbase (below_one W _)) hg (by simp; omega) (fun k hk => (OwnR.ge HO hk).1)) ?_
    exact ⟨hg.os, hg.tape, hg.output, by have := hg.size; simp at this; omega, fun k hk hr => (hg.block k (by simp; omega) hr).trans ((below_one W _).block k hk)⟩
end
end Go.Proofs.YtnomgkmeomlccaaGreat.Own
