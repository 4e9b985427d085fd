/- MacBent: what is turned. -/
import Derived.Test.YtmilnaiehebalaaSignB
import Derived.Test.YtmilnaiehebalaaDigC
import Derived.BigRegion
set_option linter.unusedVariables false
set_option linter.unusedSimpArgs false
namespace Go.Proofs.Ytmilnaiehebalaa.Mac
open Go.RowKit Rd Api Own Mv Num Dig Sg RefS

theorem flat_set (xs : List ByteArray) (k : Nat) (y : ByteArray) (hk : k < xs.length) : flat fS (xs.set k y) = (flat fS xs).set k (.string y) := by
  have e : ∀ l : List ByteArray, flat fS l = l.map Value.string := fun l => by
    induction l with
    | nil => rfl
    | cons x r ih => simp only [flat, List.flatMap_cons, fS, List.map_cons] at ih ⊢; rw [ih]; rfl
  rw [e, e, List.map_set]
/-- one element written -/
theorem own_put {W : World} {base : Nat} {v : Value} {xs : List ByteArray} (h : OwnR fS 1 W base 9 v xs) {k : Nat} (hk : k < xs.length) : ∃ g cap, v = .slice (some ⟨g, 0, none⟩) xs.length cap ∧ base ≤ g ∧ g < W.heap.size ∧ (∃ u, W.cell? ⟨g, k, none⟩ = some u) ∧ W.frozen? ⟨g, k, none⟩ = false ∧ ∀ y, OwnR fS 1 (W.setCell ⟨g, k, none⟩ (.string y)) base 9 v (xs.set k y) := by
  rcases h.2 with ⟨rfl, h0⟩ | ⟨g, cap, cur, rfl, hb, hh, hle, hcap, hsz, hcur⟩
  · omega
  · rw [Nat.mul_one] at hsz hcur
    refine ⟨g, cap, rfl, hb, blk_lt' hh, ⟨_, blk_at hh k _ (Array.getElem?_eq_getElem (by omega))⟩, blk_frz hh k, fun y => ⟨?_, .inr ⟨g, cap, cur.setIfInBounds k (.string y), by rw [List.length_set], hb, blk_set3 hh k _, by rw [List.length_set]; exact hle, hcap, by rw [Array.size_setIfInBounds, Nat.mul_one]; exact hsz, ?_⟩⟩⟩
    · rw [flat_set xs k y hk, List.length_set, List.length_set]
      have := h.1
      exact this
    · rw [Array.toList_setIfInBounds, List.take_set, List.length_set, Nat.mul_one, hcur, flat_set xs k y hk]

theorem set_16 {l : List ByteArray} {k : Nat} {y : ByteArray} (h : all16 l) (hy : y.size = 16) : all16 (l.set k y) := fun j hj => by
  rw [List.getElem_set]
  split
  · exact hy
  · exact h j (by simpa using hj)
/-- behind the turn it holds for the others, and not for that node -/
theorem bent_hold (seed : ByteArray) (fr : Int) (tx : ByteArray) (n t k : Nat) (y : ByteArray) (hn : 1 ≤ n ∧ n ≤ 7) (hf : 0 ≤ fr ∧ fr < (n : Int)) (ht : t < n) (hy : y.size = 16) (hne : y ≠ mtag seed (endF fr) (endF (k : Nat)) tx) :
    holdsF seed t n tx fr ((tagsF seed fr tx n).set k y) ↔ t ≠ k := by
  constructor
  · rintro h rfl
    have := h.2.2.2.2.2
    rw [Int.toNat_natCast, List.getElem?_set_self (by rw [tagsF_length]; exact ht)] at this
    exact hne (Option.some.inj this)
  · intro h
    exact ⟨by omega, by omega, hf, by rw [List.length_set, tagsF_length], set_16 (tagsF_16 _ _ _ _) hy, by rw [Int.toNat_natCast, List.getElem?_set_ne (fun e => h e.symm), tagsF_at _ _ _ ht]⟩
theorem four_bytes {w : World} {l : List Int} {cs : List Value} (h : (Rk.arr (Rk.int .u8) 4).K w l cs) : ∃ a b c d : Nat, cs = [.int .u8 a, .int .u8 b, .int .u8 c, .int .u8 d] ∧ a < 256 ∧ b < 256 ∧ c < 256 ∧ d < 256 := by
  obtain ⟨a, r, c0, c1, rfl, rfl, ⟨rfl, wa⟩, b, r2, c2, c3, rfl, rfl, ⟨rfl, wb⟩, c, r3, c4, c5, rfl, rfl, ⟨rfl, wc⟩, d, r4, c6, c7, rfl, rfl, ⟨rfl, wd⟩, rfl, rfl⟩ := h
  have f : ∀ x : Int, (Lit.int .u8 x).wf = true → 0 ≤ x ∧ x ≤ 255 := fun x hx => by simpa [Lit.wf, IntKind.min, IntKind.max, IntKind.bits, IntKind.signed] using hx
  have ha := f a wa
  have hb := f b wb
  have hc := f c wc
  have hd := f d wd
  exact ⟨a.toNat, b.toNat, c.toNat, d.toNat, by simp only [List.cons_append, List.nil_append, List.append_nil]; rw [Int.toNat_of_nonneg ha.1, Int.toNat_of_nonneg hb.1, Int.toNat_of_nonneg hc.1, Int.toNat_of_nonneg hd.1], by omega, by omega, by omega, by omega⟩
end Go.Proofs.Ytmilnaiehebalaa.Mac
