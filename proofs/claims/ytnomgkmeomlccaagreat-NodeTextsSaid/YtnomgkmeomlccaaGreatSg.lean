/- A signature: what reads as one; whether it is of a size that is looked at: walked. -/
import Derived.Test.YtnomgkmeomlccaaGreatBase
import Derived.LoopTactic
import Derived.Deep.LoopGhost
set_option linter.unusedVariables false
set_option linter.unusedSimpArgs false
namespace Go.Proofs.YtnomgkmeomlccaaGreat.Sg
open Go.RowKit Rd Api

structure Sig where
  node : Int
  tags : List ByteArray
def sigK : Rk Sig := Rk.iso (Rk.pair (Rk.int .i64) (Rk.pair (Rk.slice Rk.str) Rk.unit)) (fun x => (x.node, x.tags, ()))
theorem opens_strs : Opens Tryz.prog 28 (Rk.slice Rk.str) := opens_slice Tryz.underlying28 (opens_str Tryz.underlying9) (by kernel_rfl) (by decide)
theorem opens_sig : Opens Tryz.prog 30 sigK :=
  opens_iso _ (fun (a, b, _) => ⟨a, b⟩) (fun _ => rfl) (opens_struct Tryz.underlying30 (by kernel_rfl) (fs_cons rfl (by kernel_rfl) (opens_int Tryz.underlying3) (fs_cons rfl (by kernel_rfl) opens_strs (fs_nil _))))
theorem sig_open {w : World} {x : Sig} {cs : List Value} (h : sigK.K w x cs) : ∃ A c, cs = [.int .i64 x.node, .slice A x.tags.length c] ∧ IsI64 x.node ∧ Sl Rk.str w A c x.tags := by
  obtain ⟨c0, c1, rfl, ⟨rfl, h0⟩, c2, c3, rfl, h1, rfl⟩ := h
  obtain ⟨A, c, rfl, hs⟩ := sl_of h1
  exact ⟨A, c, rfl, i64_of h0, hs⟩
def sigFew (s : Sig) : Prop := s.tags.length ≤ 10 ∧ ∀ t ∈ s.tags, t.size ≤ 30
/-- A bool that, if it is true, tells something. -/
def Tells (P : Prop) (w : World) (e : Ending) (w' : World) : Prop := ∃ r : Bool, e = .returned (.bool r) ∧ (r = true → P) ∧ Below w.heap.size w w'

/-- what holds of the first i -/
def Upto {α : Type} (p : α → Prop) (l : List α) (i : Nat) : Prop := ∀ (j : Nat) (x : α), j < i → l[j]? = some x → p x
theorem upto_zero {α : Type} (p : α → Prop) (l : List α) : Upto p l 0 := fun j x hj => by omega
theorem upto_succ {α : Type} {p : α → Prop} {l : List α} {i : Nat} (h : Upto p l i) (hi : i < l.length) (hp : p l[i]) : Upto p l (i + 1) := by
  intro j x hj hx
  by_cases e : j = i
  · subst e
    rw [List.getElem?_eq_getElem hi] at hx
    simp only [Option.some.injEq] at hx
    exact hx ▸ hp
  · exact h j x (by omega) hx
theorem upto_all {α : Type} {p : α → Prop} {l : List α} {i : Nat} (h : Upto p l i) (hi : l.length ≤ i) : ∀ x ∈ l, p x := by
  intro x hx
  obtain ⟨j, hj, rfl⟩ := List.getElem_of_mem hx
  exact h j _ (by omega) (List.getElem?_eq_getElem hj)

set_option maxHeartbeats 4000000 in
set_option maxRecDepth 100000 in
theorem sig_any (w : World) (s : Sig) (A : Option Addr) (c : Nat) (h : Sl Rk.str w A c s.tags) : Calls Tryz.prog 13 #[.agg #[.int .i64 s.node, .slice A s.tags.length c]] w (Tells (sigFew s) w) := by
  have hcap := h.cap
  have hle := h.le
  have HR := Sd.mk (h.row.below (w1 := w.alloc (.cells #[.int .i64 s.node, .slice A s.tags.length c] 30)) ((Below.refl _ _).alloc (Nat.le_refl _) _))
  have HB := Sd.mk ((Below.refl w.heap.size w).alloc (Nat.le_refl _) (.cells #[.int .i64 s.node, .slice A s.tags.length c] 30))
  clear h
  go_enter Tryz.func13, Tryz.ntmps13
  go_wp2
  go_loop [3] (fun v3 => ∃ i : Nat, i ≤ s.tags.length ∧ v3 = .int .i64 i ∧ Sd (Upto (fun t => t.size ≤ 30) s.tags i)) (fun v3 => s.tags.length - (intOf v3).toNat)
  case atStart => exact ⟨0, by omega, rfl, ⟨upto_zero _ _⟩⟩
  case round =>
    obtain ⟨i, hi, rfl, HU⟩ := hrel
    by_cases hlt : i < s.tags.length
    · by_cases h20 : i < 20
      · obtain ⟨b, o, rfl, hc, hm⟩ := str_at HR.out hlt
        have hs := Sd.mk (show s.tags[i].size ≤ 30 → Upto (fun t => t.size ≤ 30) s.tags (i + 1) from fun h => upto_succ HU.out hlt h)
        unfold maxLen at hm
        generalize s.tags[i] = t at hc hm hs
        by_cases h30 : t.size ≤ 30
        · have h30' : decide (30 < (t.size : Int)) = false := decide_eq_false (by omega)
          have HU2 := Sd.mk (hs.out h30)
          clear hs HU h30
          go_wp2
          go_round
          case rel => exact ⟨i + 1, by omega, by go_num, HU2⟩
          case measure => simp [intOf]; omega
        · have h30' : decide (30 < (t.size : Int)) = true := decide_eq_true (by omega)
          clear hs h30
          go_wp2
          go_ret
          exact ⟨false, rfl, (fun h => by cases h), HB.out⟩
      · have h10 : decide ((s.tags.length : Int) ≤ 10) = false := decide_eq_false (by omega)
        go_wp2
        go_ret
        exact ⟨false, rfl, (fun h => by cases h), HB.out⟩
    · by_cases h10 : s.tags.length ≤ 10
      · have h10' : decide ((s.tags.length : Int) ≤ 10) = true := decide_eq_true (by omega)
        have HT := Sd.mk (show sigFew s from ⟨h10, upto_all HU.out (by omega)⟩)
        clear h10 HU
        go_wp2
        go_ret
        exact ⟨true, rfl, fun _ => HT.out, HB.out⟩
      · have h10' : decide ((s.tags.length : Int) ≤ 10) = false := decide_eq_false (by omega)
        clear h10
        go_wp2
        go_ret
        exact ⟨false, rfl, (fun h => by cases h), HB.out⟩

end Go.Proofs.YtnomgkmeomlccaaGreat.Sg
