/- A chain that is being filled: its cells, its rows, its map; keep.Put on blocks that stand on one another, from the first one on: walked. -/
import Derived.Test.YtnomgkmeomlccaaKeE
import Derived.Test.YtnomgkmeomlccaaKeD
import Derived.Test.YtnomgkmeomlccaaSmp
set_option linter.unusedVariables false
set_option linter.unusedSimpArgs false

namespace Go.Proofs.Ytnomgkmeomlccaa.Kee
open Go.RowKit Go.Sort Rd Api Own Mv App Num Dig
open Blk (Block Rq rqN fR digB coreB step_appends_at)
open Smp (Sm put)
open Wtx (fS info_str)

theorem fS_one : ∀ x : ByteArray, ∀ u ∈ fS x, u.oneCell' = true := fun _ _ hu => by simp [fS] at hu; subst hu; rfl
def stN : Rk ByteArray where
  sz := 1
  K := fun _ x cs => cs = fS x
  len := fun h => by rw [h]; rfl
  keep := fun _ h => h
theorem row_one {α : Type} {d : Rk α} {f : α → List Value} (hd : ∀ w x, d.K w x (f x)) {W : World} {b : Nat} {x : α} {t : TypeId} (h : W.heap[b]? = some (.cells (f x).toArray t (0, 0))) : Row d W (some ⟨b, 0, none⟩) [x] := by
  intro i y hy
  match i, hy with
  | 0, hy =>
    cases Option.some.inj hy
    exact ⟨b, 0, f x, rfl, hd W x, fun j u hu => by rw [show 0 + 0 * d.sz + j = j by omega]; exact blk_at h j u (by simpa using hu)⟩
  | i + 1, hy => simp at hy
/-- a block's cells -/
theorem wk_at {W0 W : World} {A : Option Addr} {rs : List Bk} (h : Row bkK W A rs) {i : Nat} {r : Bk} {b : Block} (hr : rs[i]? = some r) (hk : Wk W0 r b) : ∃ g o, A = some ⟨g, o, none⟩ ∧ W.cell? ⟨g, o + i * 6, none⟩ = some (.int .i64 b.view) ∧ W.cell? ⟨g, o + i * 6 + 1, none⟩ = some (.int .i64 b.prop) ∧ W.cell? ⟨g, o + i * 6 + 2, none⟩ = some (.int .i64 b.just.view) ∧ W.cell? ⟨g, o + i * 6 + 3, none⟩ = some (.string b.just.block) ∧ W.cell? ⟨g, o + i * 6 + 4, none⟩ = some (.slice r.sa r.sn r.sc) ∧ W.cell? ⟨g, o + i * 6 + 5, none⟩ = some (.slice r.a b.batch.length r.c) := by
  obtain ⟨g, o, hA, c0, c1, c2, c3, c4, c5⟩ := bk_at h hr
  rw [hk.v] at c0
  rw [hk.p] at c1
  rw [hk.jv] at c2
  rw [hk.jb] at c3
  rw [hk.n] at c5
  exact ⟨g, o, hA, c0, c1, c2, c3, c4, c5⟩
/-- a chain under way -/
structure Q (w0 : World) (g b : Nat) (ub ud : Value) (rs : List Bk) (ds : List ByteArray) (W : World) : Prop where
  bel : RowKit.Below w0.heap.size w0 W
  hg : W.heap[g]? = some (.cells #[ub, ud, .map (some b)] 100 (0, 0))
  sm : ∃ l, Sm b l W
  ob : OwnR fB 6 W 0 42 ub rs
  od : OwnR fS 1 W 0 9 ud ds
  nb : ∀ k, ub.ownBlock = some k → w0.heap.size ≤ k
  nd : ∀ k, ud.ownBlock = some k → w0.heap.size ≤ k
  gg : w0.heap.size ≤ g
  gb : w0.heap.size ≤ b
/-- the same, with rows that aren't stored yet -/
structure Q2 (w0 : World) (g b : Nat) (ub ud ub1 ud1 : Value) (rs : List Bk) (ds : List ByteArray) (W : World) : Prop where
  bel : RowKit.Below w0.heap.size w0 W
  hg : W.heap[g]? = some (.cells #[ub, ud, .map (some b)] 100 (0, 0))
  sm : ∃ l, Sm b l W
  ob : OwnR fB 6 W 0 42 ub1 rs
  od : OwnR fS 1 W 0 9 ud1 ds
  nb : ∀ k, ub1.ownBlock = some k → w0.heap.size ≤ k
  nd : ∀ k, ud1.ownBlock = some k → w0.heap.size ≤ k
  gg : w0.heap.size ≤ g
  gb : w0.heap.size ≤ b
theorem Q.two {w0 : World} {g b : Nat} {ub ud : Value} {rs : List Bk} {ds : List ByteArray} {W : World} (h : Q w0 g b ub ud rs ds W) : Q2 w0 g b ub ud ub ud rs ds W := ⟨h.bel, h.hg, h.sm, h.ob, h.od, h.nb, h.nd, h.gg, h.gb⟩
theorem Q.below {w0 : World} {g b : Nat} {ub ud : Value} {rs : List Bk} {ds : List ByteArray} {W W1 : World} (h : Q w0 g b ub ud rs ds W) (hb : RowKit.Below W.heap.size W W1) : Q w0 g b ub ud rs ds W1 := by
  obtain ⟨l, hl⟩ := h.sm
  exact ⟨below_then h.bel hb, blk_keep h.hg hb, ⟨l, hl.below hb⟩, h.ob.below hb, h.od.below hb, h.nb, h.nd, h.gg, h.gb⟩
section
variable {w0 : World} {g b : Nat} {ub ud ub1 ud1 v1 : Value} {rs rs2 : List Bk} {ds ds2 : List ByteArray} {W W1 : World}
theorem Q2.below (h : Q2 w0 g b ub ud ub1 ud1 rs ds W) (hb : RowKit.Below W.heap.size W W1) : Q2 w0 g b ub ud ub1 ud1 rs ds W1 := by
  obtain ⟨l, hl⟩ := h.sm
  exact ⟨below_then h.bel hb, blk_keep h.hg hb, ⟨l, hl.below hb⟩, h.ob.below hb, h.od.below hb, h.nb, h.nd, h.gg, h.gb⟩
theorem own_map {α : Type} {f : α → List Value} {n base : Nat} {e : TypeId} {v : Value} {xs : List α} (h : OwnR f n W base e v xs) {l : Smp.Prs} (k : Sm b l W) : v.ownBlock ≠ some b := by
  obtain ⟨es, ck, hb, -⟩ := k.h
  rcases h.2 with ⟨rfl, _⟩ | ⟨q, cap, cur, rfl, _, hh, _⟩
  · simp [Value.ownBlock]
  · intro he
    simp only [Value.ownBlock, Option.some.injEq] at he
    subst he
    rw [hh] at hb
    simp at hb
theorem Q2.growB (h : Q2 w0 g b ub ud ub1 ud1 rs ds W) (ho : OwnR fB 6 W1 0 42 v1 rs2) (hg : W.grownBy W1 ub1.ownBlock) (hn : v1.ownBlock = ub1.ownBlock ∨ v1.ownBlock = some W.heap.size) : Q2 w0 g b ub ud v1 ud1 rs2 ds W1 := by
  obtain ⟨l, hl⟩ := h.sm
  refine ⟨below_grown h.bel hg h.bel.size h.nb, blk_grown h.hg hg (h.ob.blk h.hg (by decide)), ⟨l, hl.grown hg (own_map h.ob hl)⟩, ho, OwnR.grown h.od hg (Rp.own_apart h.od h.ob (by decide)), fun k hk => ?_, h.nd, h.gg, h.gb⟩
  rcases hn with e | e
  · exact h.nb k (e ▸ hk)
  · rw [hk] at e
    cases Option.some.inj e
    exact h.bel.size
theorem Q2.growD (h : Q2 w0 g b ub ud ub1 ud1 rs ds W) (ho : OwnR fS 1 W1 0 9 v1 ds2) (hg : W.grownBy W1 ud1.ownBlock) (hn : v1.ownBlock = ud1.ownBlock ∨ v1.ownBlock = some W.heap.size) : Q2 w0 g b ub ud ub1 v1 rs ds2 W1 := by
  obtain ⟨l, hl⟩ := h.sm
  refine ⟨below_grown h.bel hg h.bel.size h.nd, blk_grown h.hg hg (h.od.blk h.hg (by decide)), ⟨l, hl.grown hg (own_map h.od hl)⟩, OwnR.grown h.ob hg (Rp.own_apart h.ob h.od (by decide)), ho, h.nb, fun k hk => ?_, h.gg, h.gb⟩
  rcases hn with e | e
  · exact h.nd k (e ▸ hk)
  · rw [hk] at e
    cases Option.some.inj e
    exact h.bel.size

/-- both stored -/
theorem Q2.stored (h : Q2 w0 g b ub ud ub1 ud1 rs ds W) : Q w0 g b ub1 ud1 rs ds ((W.setCell ⟨g, 0, none⟩ ub1).setCell ⟨g, 1, none⟩ ud1) := by
  obtain ⟨l, hl⟩ := h.sm
  have hG := Rp.grown_then (grown_set W g 0 ub1) (grown_set _ g 1 ud1)
  have hgb : some g ≠ some b := fun e => by
    cases Option.some.inj e
    obtain ⟨es, ck, hb, -⟩ := hl.h
    rw [h.hg] at hb
    simp at hb
  exact ⟨below_grown h.bel hG h.bel.size (fun k e => (Option.some.inj e) ▸ h.gg), (blk_set3 (blk_set3 h.hg 0 _) 1 _).trans rfl, ⟨l, hl.grown hG hgb⟩, OwnR.grown h.ob hG (.inr (h.ob.blk h.hg (by decide))), OwnR.grown h.od hG (.inr (h.od.blk h.hg (by decide))), h.nb, h.nd, h.gg, h.gb⟩
/-- an entry in the map -/
theorem Q.upd (h : Q w0 g b ub ud rs ds W) (s : ByteArray) (hz : s.size ≤ maxLen) (v : Value) : ∃ W', (Instr.mapUpdate 98 (.map (some b)) (.string s) v).run Try.prog W = .ok () W' ∧ Q w0 g b ub ud rs ds W' := by
  obtain ⟨l, hl⟩ := h.sm
  obtain ⟨W', h1, h2, h3, h4⟩ := hl.upd Try.underlying98 Try.underlying9 s hz v
  refine ⟨W', h1, below_grown h.bel h3 h.bel.size (fun k e => (Option.some.inj e) ▸ h.gb), blk_grown h.hg h3 (fun e => ?_), ⟨_, h2⟩, OwnR.grown h.ob h3 (.inr (own_map h.ob hl)), OwnR.grown h.od h3 (.inr (own_map h.od hl)), h.nb, h.nd, h.gg, h.gb⟩
  cases Option.some.inj e
  obtain ⟨es, ck, hb, -⟩ := hl.h
  rw [h.hg] at hb
  simp at hb
end
end Go.Proofs.Ytnomgkmeomlccaa.Kee
