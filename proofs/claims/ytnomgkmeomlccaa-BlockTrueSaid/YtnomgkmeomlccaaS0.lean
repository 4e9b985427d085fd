/- What reads as a slice, and that a nil one has no room. -/
import Derived.Test.YtnomgkmeomlccaaRd
set_option linter.unusedVariables false
set_option linter.unusedSimpArgs false
namespace Go.Proofs.Ytnomgkmeomlccaa.S0
open Go.RowKit Go.ChangeShapes Go.WideShapes Rd

def slice0 {α : Type} (d : Rk α) : Rk (List α) where
  sz := 1
  K := fun w l cs => ∃ A c, cs = [.slice A l.length c] ∧ l.length ≤ c ∧ c ≤ maxLen ∧ Row d w A l ∧ (A = none → c = 0)
  len := fun h => by obtain ⟨A, c, rfl, _⟩ := h; rfl
  keep := fun hw h => by obtain ⟨A, c, rfl, h1, h2, h3, h4⟩ := h; exact ⟨A, c, rfl, h1, h2, h3.keep hw, h4⟩
theorem opens_slice0 {P : Program} {t e : TypeId} {α : Type} {d : Rk α} (ht : P.underlying t = some (.slice e)) (hd : Opens P e d) (hs : P.cellsOf e = d.sz) (h0 : 0 < d.sz) : Opens P t (slice0 d) := by
  intro H enc w base spare held fuel cs x h
  obtain ⟨l, A, c, rfl, h1, h2, h3⟩ := opens_slice ht hd hs h0 H enc w base spare held fuel cs x h
  refine ⟨l, A, c, rfl, h1, h2, h3, fun hA => ?_⟩
  subst hA
  cases fuel with
  | zero => simp [DataW.trod] at h
  | succ n =>
    unfold DataW.trod at h
    rw [ht] at h
    split at h
    all_goals first
      | (cases h; done)
      | (simp_all; done)
end Go.Proofs.Ytnomgkmeomlccaa.S0
