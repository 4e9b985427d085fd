/- What of the reader's texts is about signatures alone (for a seat without the readers). -/
import Derived.Test.YtnomgkmeomlccaaGreatRp
import Derived.Test.YtnomgkmeomlccaaGreatApp
import Derived.Test.YtnomgkmeomlccaaGreatPeel
import Derived.Deep.CutRange
import Derived.Lib.QuietBelow
set_option linter.unusedVariables false
set_option linter.unusedSimpArgs false
namespace Go.Proofs.YtnomgkmeomlccaaGreat.Rp
open Go.RowKit Rd Api Own Mv App Num

theorem grown_below {W W1 : World} (hb : Below W.heap.size W W1) (row : Option Nat) : W.grownBy W1 row := ⟨hb.os, hb.tape, hb.output, hb.size, fun k hk _ => hb.block k hk⟩
theorem grown_then {W W1 W2 : World} {row : Option Nat} (h : W.grownBy W1 row) (k : W1.grownBy W2 row) : W.grownBy W2 row := ⟨k.os.trans h.os, k.tape.trans h.tape, k.output.trans h.output, Nat.le_trans h.size k.size, fun i hi hr => (k.block i (Nat.lt_of_lt_of_le hi h.size) hr).trans (h.block i hi hr)⟩
theorem grown_set (W : World) (g o : Nat) (u : Value) : W.grownBy (W.setCell ⟨g, o, none⟩ u) (some g) := ⟨rfl, rfl, rfl, by simp [World.setCell], fun k hk hr => heap_set _ _ _ _ k (fun e => hr (by rw [e]))⟩
theorem grown_refl (W : World) (row : Option Nat) : W.grownBy W row := ⟨rfl, rfl, rfl, Nat.le_refl _, fun _ _ _ => rfl⟩
theorem grown_bel {W W1 : World} {row : Option Nat} (h : W.grownBy W1 row) (hr : ∀ k, row = some k → W.heap.size ≤ k) : Below W.heap.size W W1 := ⟨h.os, h.tape, h.output, h.size, fun i hi => h.block i hi (fun e => by have := hr i e.symm; omega)⟩
/-- a signature without bounds, read -/
def sgK : Rk Sg.Sig := Rk.iso (Rk.pair (Own.num .i64) (Rk.pair (Rk.slice Rk.str) Rk.unit)) (fun x => (x.node, x.tags, ()))
theorem sg_at {W : World} {A : Option Addr} {c : Nat} {xs : List Sg.Sig} (h : Sl sgK W A c xs) {i : Nat} {x : Sg.Sig} (hx : xs[i]? = some x) : ∃ b o A' c', A = some ⟨b, o, none⟩ ∧ W.cell? ⟨b, o + i * 2, none⟩ = some (.int .i64 x.node) ∧ W.cell? ⟨b, o + i * 2 + 1, none⟩ = some (.slice A' x.tags.length c') ∧ Sl Rk.str W A' c' x.tags := by
  obtain ⟨b, o, cs, hA, ⟨c0, c1, rfl, rfl, c2, c3, rfl, h1, rfl⟩, hc⟩ := h.row i x hx
  obtain ⟨A', c', rfl, hs⟩ := sl_of h1
  exact ⟨b, o, A', c', hA, hc 0 _ rfl, hc 1 _ rfl, hs⟩
theorem sg_of {W : World} {A : Option Addr} {c : Nat} {xs : List Sg.Sig} (h : Sl Sg.sigK W A c xs) : Sl sgK W A c xs := by
  refine ⟨h.le, h.cap, fun i x hx => ?_⟩
  obtain ⟨b, o, cs, hA, ⟨c0, c1, rfl, ⟨h0, _⟩, h2⟩, hc⟩ := h.row i x hx
  exact ⟨b, o, _, hA, ⟨c0, c1, rfl, h0, h2⟩, hc⟩
theorem catB_size (b : ByteArray) (l : List ByteArray) : b.size ≤ (catB b l).size := by
  rw [catB_ET]; rw [app_size]; omega
theorem catB_take {b : ByteArray} {l : List ByteArray} {i : Nat} {t : ByteArray} (h : l[i]? = some t) : catB b (l.take (i + 1)) = catB b (l.take i) ++ t := by
  rw [List.take_add_one, h]; exact catB_snoc _ _ _
theorem catB_pre (b : ByteArray) (l : List ByteArray) (i : Nat) : (catB b (l.take i)).size ≤ (catB b l).size := by
  have : catB b l = catB (catB b (l.take i)) (l.drop i) := by
    unfold catB; rw [← List.foldl_append, List.take_append_drop]
  rw [this]; exact catB_size _ _
theorem sigsB_size (b : ByteArray) (l : List Sg.Sig) : b.size ≤ (sigsB b l).size := by
  rw [sigsB_ET]; rw [app_size]; omega
theorem sigsB_take {b : ByteArray} {l : List Sg.Sig} {i : Nat} {t : Sg.Sig} (h : l[i]? = some t) : sigsB b (l.take (i + 1)) = sigsB b (l.take i) ++ sigB t := by
  rw [List.take_add_one, h]; exact sigsB_snoc _ _ _
theorem sigsB_pre (b : ByteArray) (l : List Sg.Sig) (i : Nat) : (sigsB b (l.take i)).size ≤ (sigsB b l).size := by
  have : sigsB b l = sigsB (sigsB b (l.take i)) (l.drop i) := by
    unfold sigsB; rw [← List.foldl_append, List.take_append_drop]
  rw [this]; exact sigsB_size _ _
theorem sigsB_in {b : ByteArray} {l : List Sg.Sig} {x : Sg.Sig} (h : x ∈ l) : (sigB x).size ≤ (sigsB b l).size := by
  obtain ⟨i, hi, rfl⟩ := List.getElem_of_mem h
  have h1 := sigsB_pre b l (i + 1)
  rw [sigsB_take (List.getElem?_eq_getElem hi), app_size] at h1
  omega
theorem num_eq (w : World) (n : Int) (t : ByteArray) (h : num4 n = t) : Calls Tryz.prog 15 #[.int .i64 n] w fun e w' => e = .returned (.string t) ∧ RowKit.Below w.heap.size w w' := by
  subst h; exact Num.number_any w n
def fin3 (Br : Nat) (W : World) (a b c : Value) : World := ((W.setCell ⟨Br, 0, none⟩ a).setCell ⟨Br, 1, none⟩ b).setCell ⟨Br, 2, none⟩ c
theorem fin3_cells {Br : Nat} {W : World} {x y z : Value} (h : W.heap[Br]? = some (.cells #[x, y, z] 24 (0, 0))) (a b c : Value) : (fin3 Br W a b c).cell? ⟨Br, 0, none⟩ = some a ∧ (fin3 Br W a b c).cell? ⟨Br, 1, none⟩ = some b ∧ (fin3 Br W a b c).cell? ⟨Br, 2, none⟩ = some c := by
  have X8 : (fin3 Br W a b c).heap[Br]? = some (.cells #[a, b, c] 24 (0, 0)) := (blk_set3 (blk_set3 (blk_set3 h 0 _) 1 _) 2 _).trans rfl
  exact ⟨blk_at X8 0 _ rfl, blk_at X8 1 _ rfl, blk_at X8 2 _ rfl⟩
end Go.Proofs.YtnomgkmeomlccaaGreat.Rp
