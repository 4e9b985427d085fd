/- Small laws of the chain's texts. -/
import Derived.Test.YtnomgkmeomlccaaKeE
import Derived.Test.YtnomgkmeomlccaaSmp
import Derived.Test.YtnomgkmeomlccaaArr
set_option linter.unusedVariables false
set_option linter.unusedSimpArgs false
namespace Go.Proofs.Ytnomgkmeomlccaa.Kee
open Go.RowKit Go.Sort Rd Api Own Mv App Num Dig
open Blk (Block Rq rqN fR)
open Smp (Sm)

/-- a block's cells -/
theorem wk_at {W0 W : World} {A : Option Addr} {rs : List Bk} (h : Row bkK W A rs) {i : Nat} {r : Bk} {b : Block} (hr : rs[i]? = some r) (hk : Wk W0 r b) : ∃ g o, A = some ⟨g, o, none⟩ ∧ W.cell? ⟨g, o + i * 6, none⟩ = some (.int .i64 b.view) ∧ W.cell? ⟨g, o + i * 6 + 1, none⟩ = some (.int .i64 b.prop) ∧ W.cell? ⟨g, o + i * 6 + 2, none⟩ = some (.int .i64 b.just.view) ∧ W.cell? ⟨g, o + i * 6 + 3, none⟩ = some (.string b.just.block) ∧ W.cell? ⟨g, o + i * 6 + 4, none⟩ = some (.slice r.sa r.sn r.sc) ∧ W.cell? ⟨g, o + i * 6 + 5, none⟩ = some (.slice r.a b.batch.length r.c) := by
  obtain ⟨g, o, hA, c0, c1, c2, c3, c4, c5⟩ := bk_at h hr
  rw [hk.v] at c0
  rw [hk.p] at c1
  rw [hk.jv] at c2
  rw [hk.jb] at c3
  rw [hk.n] at c5
  exact ⟨g, o, hA, c0, c1, c2, c3, c4, c5⟩
theorem own_map {W : World} {b : Nat} {α : Type} {f : α → List Value} {n base : Nat} {e : TypeId} {v : Value} {xs : List α} (h : OwnR f n W base e v xs) {l : Smp.Prs} (k : Sm b l W) : v.ownBlock ≠ some b := by
  obtain ⟨es, ck, hb, -⟩ := k.h
  rcases h.2 with ⟨rfl, _⟩ | ⟨q, cap, cur, rfl, _, hh, _⟩
  · simp [Value.ownBlock]
  · intro he
    simp only [Value.ownBlock, Option.some.injEq] at he
    subst he
    rw [hh] at hb
    simp at hb
theorem wpList_mapUpdate_run {P : Program} {ops : Array Oper} {rest : List Oper} {o : Oper} {a : Act} {W W1 : World} {Q : Exit → Act → World → Prop} (hgd : o.guard = none) (m x v : Operand) (t : TypeId) (hop : o.op = Op.mapUpdate t m x v) (hr : (Instr.mapUpdate t (a.eval m) (a.eval x) (a.eval v)).run P W = .ok () W1) (h : wpList P ops Q rest (a.put o.dst undef) W1) : wpList P ops Q (o :: rest) a W :=
  wpList_plain hgd fun K hK => by
    unfold Oper.wp
    simp [execOp, hop, hr, Result.andThen]
    exact hK _ _ h
theorem opens_tls : Opens Try.prog 22 (Rk.slice (Rk.arr (Rk.int .u8) 3)) := opens_slice Try.underlying22 (Arr.opens_arr Try.underlying24 (opens_int Try.underlying5) (by kernel_rfl) (by kernel_rfl)) (by kernel_rfl) (by decide)
theorem u8_of {a : Int} (h : (Lit.int .u8 a).wf = true) : ∃ n : Nat, a = (n : Int) ∧ n < 256 := by
  have h2 : 0 ≤ a ∧ a ≤ 255 := by simpa [Lit.wf, IntKind.min, IntKind.max, IntKind.bits, IntKind.signed] using h
  exact ⟨a.toNat, by omega, by omega⟩
theorem tl_of {w : World} {A : Option Addr} {c : Nat} {l : List (List Int)} (h1 : l.length ≤ c) (h2 : c ≤ maxLen) (h3 : Row (Rk.arr (Rk.int .u8) 3) w A l) : ∃ l' : List Tl, l'.length = l.length ∧ Sl tlN w A c l' ∧ All8 l' := by
  have key : ∀ (j : Nat) (x : List Int), l[j]? = some x → ∃ (p : Tl) (b o : Nat), x = [p.1, p.2.1, p.2.2] ∧ (∃ a k c, T8 p a k c) ∧ A = some ⟨b, o, none⟩ ∧ ∀ (i : Nat) (v : Value), (fT p)[i]? = some v → w.cell? ⟨b, o + j * 3 + i, none⟩ = some v := by
    intro j x hx
    obtain ⟨b, o, cs, hA, hK, hc⟩ := h3 j x hx
    obtain ⟨a, r, c0, c1, rfl, rfl, ⟨rfl, wa⟩, k, r2, c2, c3, rfl, rfl, ⟨rfl, wk⟩, c, r3, c4, c5, rfl, rfl, ⟨rfl, wc⟩, rfl, rfl⟩ := hK
    obtain ⟨a', ha, ha2⟩ := u8_of wa
    obtain ⟨k', hk, hk2⟩ := u8_of wk
    obtain ⟨c', hc', hc2⟩ := u8_of wc
    exact ⟨(a, k, c), b, o, rfl, ⟨a', k', c', ha, hk, hc', ha2, hk2, hc2⟩, hA, fun i v hv => hc i v hv⟩
  refine ⟨l.map (fun x => (x.getD 0 0, x.getD 1 0, x.getD 2 0)), by simp, ⟨by simpa using h1, h2, fun j p hp => ?_⟩, fun p hp => ?_⟩
  · rw [List.getElem?_map] at hp
    obtain ⟨x, hx, rfl⟩ := Option.map_eq_some_iff.1 hp
    obtain ⟨p, b, o, rfl, -, hA, hc⟩ := key j x hx
    exact ⟨b, o, fT p, hA, rfl, hc⟩
  · obtain ⟨x, hx, rfl⟩ := List.mem_map.1 hp
    obtain ⟨j, hj⟩ := List.getElem?_of_mem hx
    obtain ⟨p, b, o, rfl, h8, -⟩ := key j x hj
    exact h8
end Go.Proofs.Ytnomgkmeomlccaa.Kee
