/- Unlike numbers of a list, and what two lists share: plain laws. -/
import Derived.Test.YtgleoeiiiadanaaTopP
set_option linter.unusedVariables false
namespace Go.Proofs.Ytgleoeiiiadanaa.Top

--BEGIN
/-- those from 0 below n, each once, as they come -/
def o1 (n : Int) (acc : List Int) (x : Int) : List Int := if 0 ≤ x ∧ x < n ∧ x ∉ acc then acc ++ [x] else acc
def onceF (l : List Int) (n : Int) : List Int := l.foldl (o1 n) []
theorem onceF_snoc (l : List Int) (x n : Int) : onceF (l ++ [x]) n = o1 n (onceF l n) x := by unfold onceF; rw [List.foldl_append]; rfl
theorem onceF_ok (l : List Int) (n : Int) : (onceF l n).Nodup ∧ (∀ x, x ∈ onceF l n ↔ x ∈ l ∧ 0 ≤ x ∧ x < n) ∧ (onceF l n).length ≤ l.length := by
  refine snoc_ind (p := fun l => (onceF l n).Nodup ∧ (∀ x, x ∈ onceF l n ↔ x ∈ l ∧ 0 ≤ x ∧ x < n) ∧ (onceF l n).length ≤ l.length) ?_ ?_ l
  · exact ⟨List.nodup_nil, fun x => by simp [onceF], Nat.le_refl _⟩
  · rintro l y ⟨h1, h2, h3⟩
    rw [onceF_snoc]
    unfold o1
    split
    · rename_i h
      refine ⟨?_, fun x => ?_, by simp; omega⟩
      · rw [List.nodup_append]
        refine ⟨h1, by simp, ?_⟩
        intro a ha b hb e
        simp at hb
        subst hb; subst e
        exact h.2.2 ha
      · rw [List.mem_append, h2]
        simp only [List.mem_append, List.mem_singleton]
        constructor
        · rintro (⟨a, b⟩ | rfl)
          · exact ⟨.inl a, b⟩
          · exact ⟨.inr rfl, h.1, h.2.1⟩
        · rintro ⟨a | rfl, b⟩
          · exact .inl ⟨a, b⟩
          · exact .inr rfl
    · rename_i h
      refine ⟨h1, fun x => ?_, by simp; omega⟩
      rw [h2]
      simp only [List.mem_append, List.mem_singleton]
      constructor
      · rintro ⟨a, b⟩; exact ⟨.inl a, b⟩
      · rintro ⟨a | rfl, b⟩
        · exact ⟨a, b⟩
        · have : x ∈ onceF l n := Classical.byContradiction fun e => h ⟨b.1, b.2, e⟩
          exact ⟨((h2 x).1 this).1, b⟩
/-- so many unlike numbers below n are at most n -/
theorem nodup_le : ∀ (m : Nat) (l : List Int), l.Nodup → (∀ x ∈ l, 0 ≤ x ∧ x < (m : Int)) → l.length ≤ m
  | 0, l, _, h => by
    cases l with
    | nil => exact Nat.le_refl _
    | cons x r => have := h x (by simp); omega
  | m + 1, l, hn, h => by
    have h1 := nodup_le m (l.erase (m : Int)) (hn.erase _) (fun x hx => by
      have h2 := h x (List.mem_of_mem_erase hx)
      have h3 : x ≠ (m : Int) := fun e => by subst e; exact List.Nodup.not_mem_erase hn hx
      omega)
    have h2 := List.length_erase_le (l := l) (a := (m : Int))
    rw [List.length_erase] at h1
    split at h1 <;> omega
/-- how many are in both -/
def both (a b : List Int) : Nat := a.countP (fun x => decide (x ∈ b))
theorem both_share {a b : List Int} {n : Nat} (ha : a.Nodup) (hb : b.Nodup) (h1 : ∀ x ∈ a, 0 ≤ x ∧ x < (n : Int)) (h2 : ∀ x ∈ b, 0 ≤ x ∧ x < (n : Int)) : a.length + b.length ≤ n + both a b := by
  have e : a.length = both a b + (a.filter (fun x => decide (x ∉ b))).length := by
    unfold both
    have := List.length_eq_countP_add_countP (fun x => decide (x ∈ b)) (l := a)
    rw [← List.countP_eq_length_filter]
    rw [this]
    congr 1
    apply List.countP_congr
    intro x _
    simp
  have : ((a.filter (fun x => decide (x ∉ b))) ++ b).length ≤ n := nodup_le n _ (by
    rw [List.nodup_append]
    refine ⟨ha.filter _, hb, ?_⟩
    intro x hx y hy e
    subst e
    rw [List.mem_filter] at hx
    simp at hx
    exact hx.2 hy) (fun x hx => by
    rcases List.mem_append.1 hx with h | h
    · exact h1 x (List.mem_filter.1 h).1
    · exact h2 x h)
  rw [List.length_append] at this
  omega
/-- sorted unlike numbers rise -/
theorem rises {l : List Int} (hs : l.Pairwise (· ≤ ·)) (hn : l.Nodup) : l.Pairwise (· < ·) := by
  have := List.Pairwise.and hs hn
  exact this.imp (fun h => by have := h.1; have := h.2; omega)
--END
end Go.Proofs.Ytgleoeiiiadanaa.Top
