/- A ledger: what is applied again, and what stays: plain laws. -/
import Derived.Test.YtgleoeiiiadanaaLedJ
set_option linter.unusedVariables false
set_option linter.unusedSimpArgs false
namespace Go.Proofs.Ytgleoeiiiadanaa.Led
open Go.RowKit Rd Api Own Mv Num Dig Wtx

--BEGIN
theorem idx_app {l k : List Rq} {c s : Int} {j : Nat} (h : idx l c s = some j) : idx (l ++ k) c s = some j := by
  have h1 := idx_some h
  refine idx_of ?_ (fun i hi h2 => ?_)
  · obtain ⟨x, hx, r⟩ := h1.1
    exact ⟨x, by rw [List.getElem?_append_left (at_lt h1.1)]; exact hx, r⟩
  · obtain ⟨x, hx, r⟩ := h2
    have := at_lt h1.1
    rw [List.getElem?_append_left (by omega)] at hx
    exact h1.2 i hi ⟨x, hx, r⟩
theorem ins_pre (xs : List Rq) (r : Rq) : xs <+: ins xs r := by
  unfold ins; split
  · exact List.prefix_refl _
  · exact List.prefix_append _ _
theorem insAll_pre : ∀ (l xs : List Rq), xs <+: insAll xs l
  | [], xs => List.prefix_refl _
  | r :: l, xs => (ins_pre xs r).trans (insAll_pre l (ins xs r))
theorem idx_pre {l k : List Rq} {c s : Int} {j : Nat} (hp : l <+: k) (h : idx l c s = some j) : idx k c s = some j := by
  obtain ⟨m, rfl⟩ := hp
  exact idx_app h
theorem idx_ins (xs : List Rq) (r : Rq) : idx (ins xs r) r.c r.s = some (pos xs r) := by
  unfold ins pos
  cases h : idx xs r.c r.s with
  | some j => simpa using h
  | none =>
    refine idx_of ?_ (fun i hi h2 => ?_)
    · refine ⟨r, ?_, rfl, rfl⟩
      simp
    · obtain ⟨x, hx, r1⟩ := h2
      simp at hi
      simp only [] at hx
      rw [List.getElem?_append_left (by omega)] at hx
      exact idx_none.1 h i ⟨x, hx, r1⟩
/-- where a request is told to be, there it is at last -/
theorem pos_fin : ∀ (l xs m : List Rq) (k : Nat) (r : Rq), l[k]? = some r → (posAll xs l)[k]? = some (idxI (insAll xs (l ++ m)) r.c r.s)
  | [], _, _, k, r, h => by simp at h
  | x :: l, xs, m, 0, r, h => by
    simp at h
    subst h
    have h1 : idx (insAll (ins xs x) (l ++ m)) x.c x.s = some (pos xs x) := idx_pre (insAll_pre _ _) (idx_ins xs x)
    show some (pos xs x : Int) = some (idxI (insAll (ins xs x) (l ++ m)) x.c x.s)
    unfold idxI
    rw [h1]
  | x :: l, xs, m, k + 1, r, h => pos_fin l (ins xs x) m k r (by simpa using h)
/-- what is there already is applied again for nothing -/
theorem ins_had {xs : List Rq} {r : Rq} {j : Nat} (h : idx xs r.c r.s = some j) : ins xs r = xs := by unfold ins; rw [h]
theorem had_pre {xs k : List Rq} {r : Rq} (hp : ins xs r <+: k) : idx k r.c r.s = some (pos xs r) := idx_pre hp (idx_ins xs r)
theorem again_all : ∀ (l xs k : List Rq), insAll xs l <+: k → insAll k l = k ∧ posAll k l = posAll xs l
  | [], _, _, _ => ⟨rfl, rfl⟩
  | r :: l, xs, k, h => by
    have h1 : ins xs r <+: k := (insAll_pre l (ins xs r)).trans h
    have h2 := had_pre h1
    have h3 := ins_had h2
    have ih := again_all l (ins xs r) k h
    refine ⟨?_, ?_⟩
    · show insAll (ins k r) l = k
      rw [h3]; exact ih.1
    · show (pos k r : Int) :: posAll (ins k r) l = (pos xs r : Int) :: posAll (ins xs r) l
      rw [h3, ih.2]
      have : pos k r = pos xs r := by
        show (idx k r.c r.s).getD k.length = pos xs r
        rw [h2]; rfl
      rw [this]
/-- .. a batch of those that were applied -/
theorem flat_split {ls : List (List Rq)} {i : Nat} (hi : i < ls.length) : ls.flatten = (ls.take i).flatten ++ (ls[i] ++ (ls.drop (i + 1)).flatten) := by
  have h : ls = ls.take i ++ ls[i] :: ls.drop (i + 1) := by
    have := (List.take_append_drop i ls).symm
    rw [List.drop_eq_getElem_cons hi] at this
    exact this
  have h2 := congrArg List.flatten h
  rw [List.flatten_append, List.flatten_cons] at h2
  exact h2
theorem pos_batch {ls : List (List Rq)} {i : Nat} (hi : i < ls.length) {k : Nat} {r : Rq} (h : ls[i][k]? = some r) : (posAll (insAll [] (ls.take i).flatten) ls[i])[k]? = some (idxI (insAll [] ls.flatten) r.c r.s) := by
  rw [pos_fin ls[i] _ (ls.drop (i + 1)).flatten k r h, ← insAll_app, ← flat_split hi]
theorem again_batch {ls : List (List Rq)} {i : Nat} (hi : i < ls.length) : insAll (insAll [] ls.flatten) ls[i] = insAll [] ls.flatten ∧ posAll (insAll [] ls.flatten) ls[i] = posAll (insAll [] (ls.take i).flatten) ls[i] := by
  refine again_all ls[i] (insAll [] (ls.take i).flatten) _ ?_
  rw [← insAll_app]
  conv => rhs; rw [flat_split hi, ← List.append_assoc, insAll_app]
  exact insAll_pre _ _
--END
end Go.Proofs.Ytgleoeiiiadanaa.Led
