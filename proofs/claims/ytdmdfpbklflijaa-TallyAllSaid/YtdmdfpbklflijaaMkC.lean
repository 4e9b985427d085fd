/- Signatures cloned: walked; a row of the call's own, between two vocabularies. -/
import Derived.Test.YtdmdfpbklflijaaMkB
import Derived.Test.YtdmdfpbklflijaaApp
import Derived.Lib.LazyBuf
set_option linter.unusedVariables false
set_option linter.unusedSimpArgs false
namespace Go.Proofs.Ytdmdfpbklflijaa.Mk
open Go.RowKit Rd Api Own Mv App

def rawK : Rk Raw where
  sz := 2
  K := fun _ s cs => cs = fS s
  len := fun h => by rw [h]; rfl
  keep := fun _ h => h
theorem fS_one : ∀ x : Raw, ∀ u ∈ fS x, u.oneCell' = true := fun _ _ hu => by simp [fS] at hu; rcases hu with rfl | rfl <;> rfl
theorem raw_at {W : World} {A : Option Addr} {l : List Raw} (h : Row rawK W A l) {i : Nat} {x : Raw} (hx : l[i]? = some x) : ∃ b o, A = some ⟨b, o, none⟩ ∧ W.cell? ⟨b, o + i * 2, none⟩ = some (.int .i64 x.f) ∧ W.cell? ⟨b, o + i * 2 + 1, none⟩ = some (.slice x.a x.n x.c) := by
  obtain ⟨b, o, cs, hA, rfl, hc⟩ := h i x hx
  exact ⟨b, o, hA, hc 0 _ rfl, hc 1 _ rfl⟩
theorem info_sig : ((Try.prog).info? 39).map (fun i => (i.zero, i.size, i.bytes)) = some (some (.agg #[.int .i64 0, .slice none 0 0]), 2, 32) := by kernel_rfl
theorem own_empty (W : World) (e : TypeId) : OwnR fS 2 (W.alloc (.cells #[] e)) 0 e (.slice (some ⟨W.heap.size, 0, none⟩) 0 0) [] :=
  ⟨rfl, .inr ⟨W.heap.size, 0, #[], rfl, Nat.zero_le _, blk_new W _, Nat.le_refl _, by unfold maxLen; omega, rfl, rfl⟩⟩
/-- a list of signatures, as it lies -/
structure Sl2 (W : World) (A : Option Addr) (c : Nat) (l : List Raw) : Prop where
  le : l.length ≤ c
  cap : c ≤ 9223372036854775807
  row : Row rawK W A l
  nil : A = none → c = 0
set_option maxHeartbeats 4000000 in
set_option maxRecDepth 100000 in
theorem clone_any (W : World) (A : Option Addr) (c : Nat) (l : List Raw) (h : Sl2 W A c l) (hlen : l.length ≤ 1000) (n : Nat) (hn : n = l.length) :
    Calls Try.prog 59 #[.slice A n c] W fun e w' => ∃ v', e = .returned v' ∧ OwnR fS 2 w' 0 39 v' l ∧ (∀ k, v'.ownBlock = some k → W.heap.size ≤ k) ∧ Below W.heap.size W w' := by
  subst hn
  cases A with
  | none =>
    obtain rfl := h.nil rfl
    have hy : l = [] := List.eq_nil_of_length_eq_zero (by have := h.le; omega)
    subst hy
    have hnil := fun W1 a n c => Go.run_eql_slice_nil (P := Try.prog) W1 22 39 a n c Try.underlying22
    go_enter Try.func59, Try.ntmps59
    go_wp2
    go_ret
    exact ⟨_, rfl, OwnR.nil _ _ _ _ _, fun k hk => (by simp [Value.ownBlock] at hk), Below.refl _ _⟩
  | some ad =>
    have HR := Sd.mk (h.row.below (below_one W (.cells #[] 39)))
    have HE := Sd.mk (own_empty W 39)
    have HB := Sd.mk (below_one W (.cells #[] 39))
    clear h
    have hnil := fun W1 a n c => Go.run_eql_slice_nil (P := Try.prog) W1 22 39 a n c Try.underlying22
    go_enter Try.func59, Try.ntmps59
    go_wp2_with (first
      | (at_builtin; refine appends_at (d := rawK) (f := fS) (n := 2) (fun _ _ _ => Iff.rfl) rfl (fun _ => rfl) fS_one rfl (.tmp 5) (.tmp 6) 22 39 (.agg #[.int .i64 0, .slice none 0 0]) 32 rfl Try.underlying22 info_sig rfl (by decide) (.slice (some ⟨W.heap.size, 0, none⟩) 0 0) [] l (some ad) c rfl rfl HR.out (fun e => by cases e) HE.out (by simp; omega) (by simp; omega) ?_; intro v1 w1 hown hg hob; have HO := Sd.mk hown; have HG := Sd.mk hg; have HQ := Sd.mk hob; clear hown hg hob))
    go_ret
    refine ⟨v1, rfl, by have := HO.out; simpa using this, ?_, below_grown HB.out HG.out (by simp) (fun k e => by simp [Value.ownBlock] at e; omega)⟩
    intro k hk
    rcases HQ.out with e | e
    · rw [hk] at e; simp [Value.ownBlock] at e; omega
    · rw [hk] at e; simp at e; omega
/-- a row of the call's own is one that is sorted in place -/
theorem st_of {w W : World} {B0 : Nat} {v : Value} {l : List Raw} (h : OwnR fS 2 W 0 39 v l) (hn : ∀ k, v.ownBlock = some k → B0 ≤ k) (hb : Below B0 w W) : (v = .slice none 0 0 ∧ l = []) ∨ ∃ g cap, v = .slice (some ⟨g, 0, none⟩) l.length cap ∧ l.length ≤ cap ∧ cap ≤ 9223372036854775807 ∧ St w B0 g l.toArray W := by
  rcases h.2 with ⟨rfl, hz⟩ | ⟨g, cap, cur, rfl, -, hgb, r1, r2, r3, r4⟩
  · exact .inl ⟨rfl, List.eq_nil_of_length_eq_zero hz⟩
  · refine .inr ⟨g, cap, rfl, r1, by unfold maxLen at r2; omega, ?_, blk_lt' hgb, hb, hn g rfl⟩
    intro j hj
    rw [Go.Sort.size_flatK, List.size_toArray] at hj
    refine ⟨?_, blk_frz hgb _⟩
    rw [Nat.zero_add]
    refine blk_at hgb j _ ?_
    have hq : j / 2 < l.length := by omega
    have e2 : (cur.toList.take (l.length * 2))[j]? = (flat fS l)[j]? := by rw [r4]
    rw [List.getElem?_take_of_lt hj] at e2
    have hr : j % 2 < (fS l[j / 2]).length := by show j % 2 < 2; omega
    have hg := flat_get (f := fS) (n := 2) (fun _ => rfl) l (j / 2) l[j / 2] (List.getElem?_eq_getElem hq) (j % 2) _ (List.getElem?_eq_getElem hr)
    rw [show j / 2 * 2 + j % 2 = j by omega] at hg
    rw [hg] at e2
    rw [← Array.getElem?_toList, e2, Go.Sort.get_flatK _ _ _ _ (by rw [List.size_toArray]; exact hj)]
    rw [getElem!_pos l.toArray (j / 2) (by simpa using hq), List.getElem_toArray, getElem!_pos _ (j % 2) hr]
    rfl
end Go.Proofs.Ytdmdfpbklflijaa.Mk
