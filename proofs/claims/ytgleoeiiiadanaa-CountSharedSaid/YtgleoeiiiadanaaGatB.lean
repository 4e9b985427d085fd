/- Views that nodes told: Ready, Catch: walked. -/
import Derived.Test.YtgleoeiiiadanaaGatA
import Derived.Test.YtgleoeiiiadanaaCntT
import Derived.Deep.QuietTactic
import Derived.BigQuiet
import Derived.Deep.RegionHeld3
set_option linter.unusedVariables false
set_option linter.unusedSimpArgs false
namespace Go.Proofs.Ytgleoeiiiadanaa.Gat
open Go.RowKit Rd Api _root_.Go.Proofs.Ytgleoeiiiadanaa.Own Mv Top

section
variable {g b n : Nat} {vs : List Int} {W W1 : World}
set_option maxHeartbeats 4000000 in
set_option maxRecDepth 100000 in
theorem ready_any (h : Gth g b n vs W) (hn : 1 ≤ n) (v : Int) (r : Bool) (hr : r = decide (n - fl n ≤ inn v vs)) :
    Calls Try.prog 25 #[.pointer (some ⟨g, 0, none⟩), .int .i64 v] W fun e w' => e = .returned (.bool r) ∧ Below W.heap.size W w' := by
  obtain ⟨q, hq⟩ : ∃ q, q = n - fl n := ⟨_, rfl⟩
  obtain ⟨m, hm⟩ : ∃ m, inn v vs = m := ⟨_, rfl⟩
  rw [← hq, hm] at hr
  have hI := fun (W1 : World) (h1 : Gth g b n vs W1) => in_any h1 v m hm
  have HI := Sd.mk hI
  have hQ := fun W => quorum_any W n hn h.small q hq
  have HQ := Sd.mk hQ
  have HG := Sd.mk (fun (W1 : World) (h1 : Gth g b n vs W1 ∧ Below W.heap.size W W1) => (⟨blk_at h1.1.blk 0 _ rfl, ⟨h1⟩⟩ : W1.cell? ⟨g, 0, none⟩ = some (.slice (some ⟨b, 0, none⟩) n n) ∧ Sd (Gth g b n vs W1 ∧ Below W.heap.size W W1)))
  have HH := Sd.mk (show Gth g b n vs W ∧ Below W.heap.size W W from ⟨h, Below.refl _ _⟩)
  have HR := Sd.mk hr
  have hsm := h.small
  have hqn : q ≤ 1000 := by omega
  have hmn : m ≤ 1000 := by rw [← hm]; have := inn_le v vs; have := h.len; omega
  clear h hq hm hr hI hQ
  go_enter Try.func25, Try.ntmps25
  go_upto_region 1 with (fail)
  go_region_held3 (fun W1 => W1.cell? ⟨g, 0, none⟩ = some (.slice (some ⟨b, 0, none⟩) n n) ∧ Sd (Gth g b n vs W1 ∧ Below W.heap.size W W1)) (first | exact HG.out _ ⟨HH.out.1.below (below_drew' (Below.refl _ _)), below_drew' (Below.refl _ _)⟩ | assumption | fail) (first | (go_at_call 30; (with_reducible refine (HI.out _ (‹_ ∧ Sd (Gth _ _ _ _ _ ∧ Below _ _ _)›).2.out.1).mono ?_); rintro e w5 ⟨rfl, rfl⟩) | (go_at_call 20; (with_reducible refine (HQ.out _).mono ?_); rintro e w5 ⟨rfl, rfl⟩) | fail)
  all_goals
    have hz := (‹_ ∧ Sd (Gth _ _ _ _ _ ∧ Below _ _ _)›).2.out.2
    go_wp2
    go_ret
    refine ⟨?_, hz⟩
    rw [HR.out]
    congr 2
    try simp
set_option maxHeartbeats 4000000 in
set_option maxRecDepth 100000 in
theorem catch_any (h : Gth g b n vs W) (hn : 1 ≤ n) (t : Int) (ht : IsTop vs (fl n + 1) t) :
    Calls Try.prog 26 #[.pointer (some ⟨g, 0, none⟩)] W fun e w' => e = .returned (.int .i64 t) ∧ Below W.heap.size W w' := by
  obtain ⟨k, hk⟩ : ∃ k, k = fl n + 1 := ⟨_, rfl⟩
  have hkn : k ≤ n := by rw [hk]; have := fl_lt hn; omega
  have hK := fun W => weak_any W n hn h.small k hk
  have HK := Sd.mk hK
  rw [← hk] at ht
  have hT := fun (W1 : World) (h1 : Gth g b n vs W1) => top_any W1 _ n vs h1.sl (by rw [h1.len]; exact h1.small) n k h1.len (by omega) hkn t ht
  have HT := Sd.mk hT
  have HG := Sd.mk (fun (W1 : World) (h1 : Gth g b n vs W1 ∧ Below W.heap.size W W1) => (⟨blk_at h1.1.blk 0 _ rfl, ⟨h1⟩⟩ : W1.cell? ⟨g, 0, none⟩ = some (.slice (some ⟨b, 0, none⟩) n n) ∧ Sd (Gth g b n vs W1 ∧ Below W.heap.size W W1)))
  have HH := Sd.mk (show Gth g b n vs W ∧ Below W.heap.size W W from ⟨h, Below.refl _ _⟩)
  clear h hk hK hT ht
  go_enter Try.func26, Try.ntmps26
  go_upto_region 1 with (fail)
  go_region_held3 (fun W1 => W1.cell? ⟨g, 0, none⟩ = some (.slice (some ⟨b, 0, none⟩) n n) ∧ Sd (Gth g b n vs W1 ∧ Below W.heap.size W W1)) (first | exact HG.out _ ⟨HH.out.1.below (below_drew' (Below.refl _ _)), below_drew' (Below.refl _ _)⟩ | exact HG.out _ hk | assumption | fail) (first | (go_at_call 49; (with_reducible refine (HK.out _).mono ?_); rintro e w5 ⟨rfl, rfl⟩) | (go_at_call 17; (with_reducible refine (HT.out _ (‹_ ∧ Sd (Gth _ _ _ _ _ ∧ Below _ _ _)›).2.out.1).mono ?_); rintro e w5 ⟨rfl, hb5⟩; have hk : Gth g b n vs w5 ∧ Below W.heap.size W w5 := ⟨(‹_ ∧ Sd (Gth _ _ _ _ _ ∧ Below _ _ _)›).2.out.1.below hb5, below_then (‹_ ∧ Sd (Gth _ _ _ _ _ ∧ Below _ _ _)›).2.out.2 hb5⟩) | fail)
  all_goals
    go_wp2
    go_ret
    exact ⟨rfl, hk.2⟩
end
end Go.Proofs.Ytgleoeiiiadanaa.Gat
