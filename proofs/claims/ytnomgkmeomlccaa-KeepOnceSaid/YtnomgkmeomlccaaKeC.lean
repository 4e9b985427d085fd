/- Blocks as they lie: what is kept of them. -/
import Derived.Test.YtnomgkmeomlccaaKeP
import Derived.Test.YtnomgkmeomlccaaMkOh
set_option linter.unusedVariables false
set_option linter.unusedSimpArgs false
namespace Go.Proofs.Ytnomgkmeomlccaa.Kee
open Go.RowKit Go.Sort Rd Api Own Mv App Num Dig
open Blk (Block Rq rqN fR)

/-- a block, as it lies -/
structure Bk where
  v : Int
  p : Int
  jv : Int
  jb : ByteArray
  sa : Option Addr
  sn : Nat
  sc : Nat
  a : Option Addr
  n : Nat
  c : Nat
def fB (x : Bk) : List Value := [.int .i64 x.v, .int .i64 x.p, .int .i64 x.jv, .string x.jb, .slice x.sa x.sn x.sc, .slice x.a x.n x.c]
theorem fB_one : ∀ x : Bk, ∀ u ∈ fB x, u.oneCell' = true := fun _ _ hu => by simp [fB] at hu; rcases hu with rfl | rfl | rfl | rfl | rfl | rfl <;> rfl
def bkK : Rk Bk where
  sz := 6
  K := fun _ x cs => cs = fB x
  len := fun h => by rw [h]; rfl
  keep := fun _ h => h
theorem bk_at {W : World} {A : Option Addr} {l : List Bk} (h : Row bkK W A l) {i : Nat} {x : Bk} (hx : l[i]? = some x) : ∃ b o, A = some ⟨b, o, none⟩ ∧ W.cell? ⟨b, o + i * 6, none⟩ = some (.int .i64 x.v) ∧ W.cell? ⟨b, o + i * 6 + 1, none⟩ = some (.int .i64 x.p) ∧ W.cell? ⟨b, o + i * 6 + 2, none⟩ = some (.int .i64 x.jv) ∧ W.cell? ⟨b, o + i * 6 + 3, none⟩ = some (.string x.jb) ∧ W.cell? ⟨b, o + i * 6 + 4, none⟩ = some (.slice x.sa x.sn x.sc) ∧ W.cell? ⟨b, o + i * 6 + 5, none⟩ = some (.slice x.a x.n x.c) := by
  obtain ⟨b, o, cs, hA, rfl, hc⟩ := h i x hx
  exact ⟨b, o, hA, hc 0 _ rfl, hc 1 _ rfl, hc 2 _ rfl, hc 3 _ rfl, hc 4 _ rfl, hc 5 _ rfl⟩
theorem own_bk {W : World} {base : Nat} {v : Value} {l : List Bk} (h : OwnR fB 6 W base 42 v l) : ∃ A c, v = .slice A l.length c ∧ Sl bkK W A c l := OwnR.reads (d := bkK) (f := fB) (n := 6) (fun _ _ => rfl) (fun _ => rfl) rfl h
theorem info_blk : ((Try.prog).info? 42).map (fun i => (i.zero, i.size, i.bytes)) = some (some (.agg #[.int .i64 0, .int .i64 0, .int .i64 0, .string ByteArray.empty, .slice none 0 0, .slice none 0 0]), 6, 88) := by kernel_rfl
/-- a row of so many may be larger still -/
theorem room {n : Nat} (h : n ≤ 10000) : (n + 1) * 88 ≤ 140737488355328 := by omega
/-- this one, in this world; its requests are the call's own -/
structure Is (W : World) (r : Bk) (b : Block) : Prop where
  v : r.v = b.view
  p : r.p = b.prop
  jv : r.jv = b.just.view
  jb : r.jb = b.just.block
  n : r.n = b.batch.length
  own : OwnR fR 3 W 0 47 (.slice r.a r.n r.c) b.batch
/-- this one, in this world; its requests can be read -/
structure Wk (W : World) (r : Bk) (b : Block) : Prop where
  v : r.v = b.view
  p : r.p = b.prop
  jv : r.jv = b.just.view
  jb : r.jb = b.just.block
  n : r.n = b.batch.length
  sl : Sl rqN W r.a r.c b.batch
theorem Is.wk {W : World} {r : Bk} {b : Block} (h : Is W r b) : Wk W r b := by
  obtain ⟨A, c, e, hs⟩ := Blk.own_rq h.own
  simp only [Value.slice.injEq] at e
  obtain ⟨e1, -, e2⟩ := e
  exact ⟨h.v, h.p, h.jv, h.jb, h.n, by rw [e1, e2]; exact hs⟩
theorem Wk.below {W W1 : World} {r : Bk} {b : Block} (h : Wk W r b) (hb : RowKit.Below W.heap.size W W1) : Wk W1 r b := ⟨h.v, h.p, h.jv, h.jb, h.n, h.sl.below hb⟩
/-- a row of blocks that the call has made of its own -/
structure Ch (w : World) (u : Value) (bs : List Block) (W : World) : Prop where
  bel : RowKit.Below w.heap.size w W
  ex : ∃ rs : List Bk, OwnR fB 6 W 0 42 u rs ∧ rs.length = bs.length ∧ ∀ (j : Nat) (r : Bk) (b : Block), rs[j]? = some r → bs[j]? = some b → Is W r b
  new : ∀ k, u.ownBlock = some k → w.heap.size ≤ k
theorem Is.below {W W1 : World} {r : Bk} {b : Block} (h : Is W r b) (hb : RowKit.Below W.heap.size W W1) : Is W1 r b := ⟨h.v, h.p, h.jv, h.jb, h.n, h.own.below hb⟩
theorem Is.grown {W W1 : World} {r : Bk} {b : Block} (h : Is W r b) {u : Value} {rs : List Bk} (ho : OwnR fB 6 W 0 42 u rs) (hg : W.grownBy W1 u.ownBlock) : Is W1 r b := ⟨h.v, h.p, h.jv, h.jb, h.n, OwnR.grown h.own hg (Rp.own_apart h.own ho (by decide))⟩
theorem Ch.below {w W W1 : World} {u : Value} {bs : List Block} (h : Ch w u bs W) (hb : RowKit.Below W.heap.size W W1) : Ch w u bs W1 := by
  obtain ⟨rs, h1, h2, h3⟩ := h.ex
  exact ⟨below_then h.bel hb, ⟨rs, h1.below hb, h2, fun j r b e f => (h3 j r b e f).below hb⟩, h.new⟩
theorem ch_nil {w W : World} (hb : RowKit.Below w.heap.size w W) : Ch w (.slice none 0 0) [] W := ⟨hb, ⟨[], OwnR.nil _ _ _ _ _, rfl, fun j r b e _ => by simp at e⟩, fun k hk => by simp [Value.ownBlock] at hk⟩
/-- one more -/
theorem Ch.more {w W W1 : World} {u u1 : Value} {bs : List Block} {rs : List Bk} {r : Bk} {b : Block} (h : Ch w u bs W) (hrs : OwnR fB 6 W 0 42 u rs) (hl : rs.length = bs.length) (hi : ∀ (j : Nat) (r : Bk) (b : Block), rs[j]? = some r → bs[j]? = some b → Is W r b) (hr : Is W r b)
    (ho : OwnR fB 6 W1 0 42 u1 (rs ++ [r])) (hg : W.grownBy W1 u.ownBlock) (hn : u1.ownBlock = u.ownBlock ∨ ∃ k, u1.ownBlock = some k ∧ w.heap.size ≤ k) : Ch w u1 (bs ++ [b]) W1 := by
  refine ⟨below_grown h.bel hg h.bel.size h.new, ⟨rs ++ [r], ho, by simp [hl], fun j r' b' e f => ?_⟩, fun k hk => ?_⟩
  · rcases Nat.lt_or_ge j rs.length with hj | hj
    · rw [List.getElem?_append_left hj] at e
      rw [List.getElem?_append_left (by omega)] at f
      exact (hi j r' b' e f).grown hrs hg
    · have hj2 := (List.getElem?_eq_some_iff.1 e).1
      rw [List.length_append] at hj2
      simp at hj2
      obtain rfl : j = rs.length := by omega
      rw [List.getElem?_append_right (Nat.le_refl _)] at e
      rw [hl, List.getElem?_append_right (Nat.le_refl _)] at f
      simp at e f
      subst e f
      exact hr.grown hrs hg
  · rcases hn with e | ⟨k', e, hk'⟩
    · exact h.new k (e ▸ hk)
    · rw [hk] at e
      cases Option.some.inj e
      exact hk'
end Go.Proofs.Ytnomgkmeomlccaa.Kee
