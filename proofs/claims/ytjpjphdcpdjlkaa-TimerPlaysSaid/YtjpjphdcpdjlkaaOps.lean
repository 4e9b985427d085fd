/- The calls on a timer that come in, read. -/
import Derived.Test.YtjpjphdcpdjlkaaCall
import Derived.Test.YtjpjphdcpdjlkaaRd
set_option linter.unusedVariables false
set_option linter.unusedSimpArgs false
namespace Go.Proofs.Ytjpjphdcpdjlkaa.Tim
open Go.RowKit Rd

abbrev OpT := Int × Int × Unit
def opK : Rk OpT := Rk.pair (Rk.int .u8) (Rk.pair (Rk.int .i64) Rk.unit)
theorem opens_op : Opens Try.prog 55 opK :=
  opens_struct Try.underlying55 (by kernel_rfl) (fs_cons rfl (by kernel_rfl) (opens_int Try.underlying5) (fs_cons rfl (by kernel_rfl) (opens_int Try.underlying3) (fs_nil _)))
theorem opens_ops : Opens Try.prog 52 (Rk.slice opK) := opens_slice Try.underlying52 opens_op (by kernel_rfl) (by decide)
theorem op_at {w wr : World} {A : Option Addr} {l : List OpT} (h : Row opK w A l) (hb : Below w.heap.size w wr) {i : Nat} (hi : i < l.length) :
    ∃ (b o : Nat) (kd v : Int), A = some ⟨b, o, none⟩ ∧ b < w.heap.size ∧ 0 ≤ kd ∧ kd ≤ 255 ∧ wr.cell? ⟨b, o + i * 2, none⟩ = some (.int .u8 kd) ∧ wr.cell? ⟨b, o + i * 2 + 1, none⟩ = some (.int .i64 v) := by
  obtain ⟨b, o, cs, hA, ⟨c0, c1, rfl, ⟨rfl, w0⟩, ⟨c2, c3, rfl, ⟨rfl, w1⟩, rfl⟩⟩, hc⟩ := (h.below hb) i l[i] (List.getElem?_eq_getElem hi)
  obtain ⟨p1, p2⟩ : 0 ≤ l[i].1 ∧ l[i].1 ≤ 255 := by simpa [Lit.wf, IntKind.min, IntKind.max, IntKind.bits, IntKind.signed] using w0
  obtain ⟨b', o', cs', hA', ⟨c0', c1', rfl, ⟨rfl, _⟩, _⟩, hc'⟩ := h i l[i] (List.getElem?_eq_getElem hi)
  have hbb : b = b' := by rw [hA] at hA'; simp at hA'; exact hA'.1
  exact ⟨b, o, l[i].1, l[i].2.1, hA, by rw [hbb]; exact World.block_lt_of_cell? w _ (hc' 0 _ rfl), p1, p2, hc 0 _ rfl, hc 1 _ rfl⟩
end Go.Proofs.Ytjpjphdcpdjlkaa.Tim
