/- append of one, and of many, with what became of the row's block: laws. -/
import Derived.Test.YtnomgkmeomlccaaGreatMv
import Derived.Maps.AppendAt
import Derived.Laws.AppendOwnNone
import Derived.WalkSpells
import Derived.LoopTactic
import Derived.Deep.LoopGhost
set_option linter.unusedVariables false
set_option linter.unusedSimpArgs false
namespace Go.Proofs.YtnomgkmeomlccaaGreat.App
open Go.RowKit Rd Api Own Mv

section
variable {P : Program} {ops : Array Oper} {rest : List Oper} {o : Oper} {a : Act} {Q : Exit → Act → World → Prop}
theorem append_at {α : Type} {f : α → List Value} {n : Nat} (hn : ∀ x, (f x).length = n) (h1 : ∀ x, ∀ u ∈ f x, u.oneCell' = true) {W : World} (hgd : o.guard = none) (s x : Operand) (t e : TypeId) (z : Value) (bytes : Nat)
    (ho : o.op = .call { callee := .builtin .append, args := #[s, x], argTypes := #[t, t] })
    (ht : P.underlying t = some (.slice e)) (hinfo : (P.info? e).map (fun i => (i.zero, i.size, i.bytes)) = some (some z, n, bytes)) (hz : z.cells.size = n) (hn0 : 0 < n)
    (v : Value) (xs : List α) (y : α) (hs : a.eval s = v) (hx : a.eval x = .slice (some ⟨W.heap.size, 0, none⟩) 1 1)
    (HO : OwnR f n W 0 e v xs) (hl : (xs.length + 1) * bytes ≤ 140737488355328) (hl2 : xs.length + 1 ≤ 9223372036854775807)
    (h : ∀ v1 w1, OwnR f n w1 0 e v1 (xs ++ [y]) → W.grownBy w1 v.ownBlock → (v1.ownBlock = v.ownBlock ∨ v1.ownBlock = some (W.heap.size + 1)) → wpList P ops Q rest (a.put o.dst v1) w1) :
    wpList P ops Q (o :: rest) a (W.alloc (.cells (f y).toArray e)) := by
  obtain ⟨i0, hi, hzz⟩ := Option.map_eq_some_iff.1 hinfo
  simp only [Prod.mk.injEq] at hzz
  obtain ⟨hz0, hz1, hz2⟩ := hzz
  have HO2 := OwnR.below HO (below_one W (.cells (f y).toArray e))
  refine wpList_append_own_at (W.alloc (.cells (f y).toArray e)) hgd s x t ho 0 e i0 z n bytes ht hi hz0 hz1 hz2 hz hn0 v xs.length (flat f xs) hs HO2 ⟨W.heap.size, 0, none⟩ 1 1 (f y) hx (by rw [hn]; omega)
    (fun j u hu => ?_) (h1 y) (by unfold maxLen; omega) hl (by simp) ?_
  · rw [add_flat, Nat.zero_add]
    exact blk_at (blk_new W _) j u (by simpa using hu)
  · intro v1 w1 hown hg _ hb
    refine h v1 w1 (by unfold OwnR; rw [flat_append]; simpa using hown) ?_ (by simpa using hb)
    exact ⟨hg.os, hg.tape, hg.output, by have := hg.size; simp at this; omega, fun k hk hr => (hg.block k (by simp; omega) hr).trans ((below_one W _).block k hk)⟩
theorem step_append_at {E : Prop} {K : Act → World → Prop} {α : Type} {f : α → List Value} {n : Nat} (hn : ∀ x, (f x).length = n) (h1 : ∀ x, ∀ u ∈ f x, u.oneCell' = true) {W : World} (hgd : o.guard = none) (s x : Operand) (t e : TypeId) (z : Value) (bytes : Nat)
    (ho : o.op = .call { callee := .builtin .append, args := #[s, x], argTypes := #[t, t] })
    (ht : P.underlying t = some (.slice e)) (hinfo : (P.info? e).map (fun i => (i.zero, i.size, i.bytes)) = some (some z, n, bytes)) (hz : z.cells.size = n) (hn0 : 0 < n)
    (v : Value) (xs : List α) (y : α) (hs : a.eval s = v) (hx : a.eval x = .slice (some ⟨W.heap.size, 0, none⟩) 1 1)
    (HO : OwnR f n W 0 e v xs) (hl : (xs.length + 1) * bytes ≤ 140737488355328) (hl2 : xs.length + 1 ≤ 9223372036854775807)
    (h : ∀ v1 w1, OwnR f n w1 0 e v1 (xs ++ [y]) → W.grownBy w1 v.ownBlock → (v1.ownBlock = v.ownBlock ∨ v1.ownBlock = some (W.heap.size + 1)) → K (a.put o.dst v1) w1) :
    if Region.wanted o (yielded ops a.tmps) = true then Oper.wp P o a (W.alloc (.cells (f y).toArray e)) K Q else E := by
  have hw : Region.wanted o (yielded ops a.tmps) = true := by simp [Region.wanted, hgd]
  rw [if_pos hw]
  obtain ⟨i0, hi, hzz⟩ := Option.map_eq_some_iff.1 hinfo
  simp only [Prod.mk.injEq] at hzz
  obtain ⟨hz0, hz1, hz2⟩ := hzz
  have HO2 := OwnR.below HO (below_one W (.cells (f y).toArray e))
  obtain ⟨v', w', hr, hown, hg, -, hb⟩ := run_append_own_at (P := P) (W.alloc (.cells (f y).toArray e)) 0 t o.type e i0 z n bytes ht hi hz0 hz1 hz2 hz hn0 v xs.length (flat f xs) HO2 ⟨W.heap.size, 0, none⟩ 1 1 (f y) (by rw [hn]; omega)
    (fun j u hu => by rw [add_flat, Nat.zero_add]; exact blk_at (blk_new W _) j u (by simpa using hu)) (h1 y) (by unfold maxLen; omega) hl (by simp)
  unfold Oper.wp execOp
  simp only [ho, resolve, invoke, builtin, Sem.run_bind, Sem.run_pure, Result.andThen_ok, List.map_toArray, List.map_cons, List.map_nil, hs, hx, hr]
  refine h v' w' (by unfold OwnR; rw [flat_append]; simpa using hown) ?_ (by simpa using hb)
  exact ⟨hg.os, hg.tape, hg.output, by have := hg.size; simp at this; omega, fun k hk hr => (hg.block k (by simp; omega) hr).trans ((below_one W _).block k hk)⟩
/-- append(v, ys...) -/
theorem appends_at {α : Type} {d : Rk α} {f : α → List Value} {n : Nat} (hd : ∀ w x cs, d.K w x cs ↔ cs = f x) (hdn : d.sz = n) (hn : ∀ x, (f x).length = n) (h1 : ∀ x, ∀ u ∈ f x, u.oneCell' = true) {W : World} (hgd : o.guard = none) (s x : Operand) (t e : TypeId) (z : Value) (bytes : Nat)
    (ho : o.op = .call { callee := .builtin .append, args := #[s, x], argTypes := #[t, t] })
    (ht : P.underlying t = some (.slice e)) (hinfo : (P.info? e).map (fun i => (i.zero, i.size, i.bytes)) = some (some z, n, bytes)) (hz : z.cells.size = n) (hn0 : 0 < n)
    (v : Value) (xs ys : List α) (A : Option Addr) (c : Nat) (hs : a.eval s = v) (hx : a.eval x = .slice A ys.length c) (hA : Row d W A ys) (hc : A = none → c = 0)
    (HO : OwnR f n W 0 e v xs) (hl : (xs.length + ys.length) * bytes ≤ 140737488355328) (hl2 : xs.length + ys.length ≤ 9223372036854775807)
    (h : ∀ v1 w1, OwnR f n w1 0 e v1 (xs ++ ys) → W.grownBy w1 v.ownBlock → (v1.ownBlock = v.ownBlock ∨ v1.ownBlock = some W.heap.size) → wpList P ops Q rest (a.put o.dst v1) w1) :
    wpList P ops Q (o :: rest) a W := by
  obtain ⟨i0, hi, hzz⟩ := Option.map_eq_some_iff.1 hinfo
  simp only [Prod.mk.injEq] at hzz
  obtain ⟨hz0, hz1, hz2⟩ := hzz
  cases A with
  | none =>
    have hc0 := hc rfl
    subst hc0
    have hy : ys = [] := by
      cases ys with
      | nil => rfl
      | cons y r => obtain ⟨b, o, cs, hA, _⟩ := hA 0 y rfl; cases hA
    subst hy
    refine wpList_append_own_none hgd s x t ho 0 e i0 n ht hi v xs.length (flat f xs) hs HO hx ?_
    exact h v W (by simpa using HO) ⟨rfl, rfl, rfl, Nat.le_refl _, fun _ _ _ => rfl⟩ (.inl rfl)
  | some ad =>
    refine wpList_append_own_at W hgd s x t ho 0 e i0 z n bytes ht hi hz0 hz1 hz2 hz hn0 v xs.length (flat f xs) hs HO ad ys.length c (flat f ys) hx (flat_length hn ys)
      (fun j u hu => ?_) (fun u hu => ?_) (by unfold maxLen; omega) hl (by simp) ?_
    · have hj : j < (flat f ys).length := by
        rcases Nat.lt_or_ge j (flat f ys).length with h | h
        · exact h
        · rw [List.getElem?_eq_none h] at hu; cases hu
      rw [flat_length hn] at hj
      have hq : j / n < ys.length := Nat.div_lt_of_lt_mul (by rw [Nat.mul_comm]; exact hj)
      obtain ⟨b, o1, cs, hAd, hK, hcell⟩ := hA (j / n) ys[j / n] (List.getElem?_eq_getElem hq)
      have hr : j % n < (f ys[j / n]).length := by rw [hn]; exact Nat.mod_lt _ hn0
      have hg := flat_get hn ys (j / n) ys[j / n] (List.getElem?_eq_getElem hq) (j % n) _ (List.getElem?_eq_getElem hr)
      have hdm : j / n * n + j % n = j := by rw [Nat.mul_comm]; exact Nat.div_add_mod j n
      rw [hdm, hu] at hg
      cases Option.some.inj hAd
      have := hcell (j % n) u (by rw [(hd _ _ _).1 hK, List.getElem?_eq_getElem hr]; exact hg.symm)
      rw [hdn] at this
      rw [add_flat, show o1 + j = o1 + j / n * n + j % n by omega]
      exact this
    · obtain ⟨y, _, hy⟩ := List.mem_flatMap.1 hu
      exact h1 y u hy
    · intro v1 w1 hown hg _ hb
      exact h v1 w1 (by unfold OwnR; unfold flat at hown ⊢; rw [List.flatMap_append]; simpa using hown) hg hb
end
end Go.Proofs.YtnomgkmeomlccaaGreat.App
