/- What reads as an array. -/
import Derived.Test.YtnomgkmeomlccaaGreatRd
import Derived.OpenShut
import Derived.WideShapes
set_option linter.unusedVariables false
set_option linter.unusedSimpArgs false
namespace Go.Proofs.YtnomgkmeomlccaaGreat.Arr
open Go.RowKit Rd

theorem arr_of {w : World} {α : Type} {d : Rk α} : ∀ (n : Nat) (cs : List Value), cs.length = n * d.sz → (∀ i, i < n → ∃ a, d.K w a ((cs.drop (i * d.sz)).take d.sz)) → ∃ l, (Rk.arr d n).K w l cs
  | 0, cs, hl, _ => ⟨[], rfl, List.eq_nil_of_length_eq_zero (by omega)⟩
  | n + 1, cs, hl, h => by
    obtain ⟨x, hx⟩ := h 0 (by omega)
    rw [Nat.zero_mul, List.drop_zero] at hx
    obtain ⟨r, hr⟩ := arr_of (d := d) n (cs.drop d.sz) (by rw [List.length_drop, hl, Nat.succ_mul]; omega) (fun i hi => by
      obtain ⟨y, hy⟩ := h (i + 1) (by omega)
      rw [List.drop_drop]
      rw [Nat.succ_mul, Nat.add_comm] at hy
      exact ⟨y, hy⟩)
    exact ⟨x :: r, x, r, cs.take d.sz, cs.drop d.sz, rfl, (List.take_append_drop _ _).symm, hx, hr⟩
theorem opens_arr {P : Program} {t e : TypeId} {n : Nat} {α : Type} {d : Rk α} (ht : P.underlying t = some (.array n e)) (hd : Opens P e d) (hs : P.cellsOf e = d.sz) (hz : P.cellsOf t = n * d.sz) : Opens P t (Rk.arr d n) := by
  intro H enc w base spare held fuel cs x h
  obtain ⟨xs, m, _, rfl, hl, hlen, hf⟩ := DataW.trod_array ht h
  refine arr_of n cs (by rw [hl, hz]) fun i hi => ?_
  have h2 := hf i hi
  rw [List.getElem?_eq_getElem (by omega), hs] at h2
  exact hd H enc w base spare held m _ _ h2
theorem okWide_arr {P : Program} {w : World} {r : Reach} {base : Nat} {t : TypeId} {v : Value} {n : Nat} {e : TypeId} (ht : P.underlying t = some (.array n e)) (h : Value.okWide P w r base t v) : ∃ cs, v = .agg cs ∧ cs.size = P.cellsOf t := by
  simp only [Value.okWide, ht] at h
  obtain ⟨cs, h1, h2, _⟩ := h
  exact ⟨cs, h1, h2⟩
theorem two_ints {w : World} {l : List Int} {cs : List Value} (h : (Rk.arr (Rk.int .i64) 2).K w l cs) : ∃ a b : Int, cs = [.int .i64 a, .int .i64 b] ∧ (Lit.int .i64 a).wf = true ∧ (Lit.int .i64 b).wf = true := by
  obtain ⟨a, r, c0, c1, rfl, rfl, ⟨rfl, wa⟩, b, r2, c2, c3, rfl, rfl, ⟨rfl, wb⟩, rfl, rfl⟩ := h
  exact ⟨a, b, rfl, wa, wb⟩
end Go.Proofs.YtnomgkmeomlccaaGreat.Arr
