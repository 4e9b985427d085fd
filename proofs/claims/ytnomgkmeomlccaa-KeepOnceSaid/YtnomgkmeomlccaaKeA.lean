/- A chain without blocks: New, Last; awake of layer 11: walked. -/
import Derived.Test.YtnomgkmeomlccaaLawBD
import Derived.LoopTactic
set_option linter.unusedVariables false
set_option linter.unusedSimpArgs false
namespace Go.Proofs.Ytnomgkmeomlccaa.Kee
open Go.RowKit Go.Sort Rd Api Own Mv App Num Dig

set_option maxHeartbeats 4000000 in
set_option maxRecDepth 100000 in
theorem new_any (w : World) : Calls Try.prog 13 #[] w fun e w' => ∃ g b, e = .returned (.pointer (some ⟨g, 0, none⟩)) ∧ w'.heap[g]? = some (.cells #[.slice none 0 0, .slice none 0 0, .map (some b)] 100 (0, 0)) ∧ w'.heap[b]? = some (.map #[] 0) ∧ w.heap.size ≤ b ∧ w.heap.size ≤ g ∧ RowKit.Below w.heap.size w w' := by
  have hmm := @run_makeMap Try.prog
  go_enter Try.func13, Try.ntmps13
  go_wp2
  go_ret
  exact ⟨w.heap.size + 1, w.heap.size, rfl, blk_new1 _ _ _, blk_keep (blk_new w _) (below_one _ _), Nat.le_refl _, by omega, below_then (below_one w _) (below_one _ _)⟩
set_option maxHeartbeats 4000000 in
set_option maxRecDepth 100000 in
theorem last_none (w : World) (g b : Nat) (h : w.heap[g]? = some (.cells #[.slice none 0 0, .slice none 0 0, .map (some b)] 100 (0, 0))) (d : ByteArray) (hd : Crt.FB = d) : Calls Try.prog 58 #[.pointer (some ⟨g, 0, none⟩)] w fun e w' => e = .returned (.string d) ∧ RowKit.Below w.heap.size w w' := by
  have c1 := blk_at h 1 _ rfl
  have HD := Sd.mk hd
  clear h hd
  go_enter Try.func58, Try.ntmps58
  go_wp2_with (first
    | (go_at_call 29; (with_reducible refine (Blk.first_any _ d HD.out).mono ?_); rintro e w1 ⟨rfl, hb⟩; have HB := Sd.mk hb; clear hb))
  go_ret
  exact ⟨rfl, HB.out⟩
set_option maxHeartbeats 4000000 in
set_option maxRecDepth 100000 in
theorem awake_any (w : World) : Calls Try.prog 11 #[] w fun e w' => e = .returned (.bool true) ∧ RowKit.Below w.heap.size w w' := by
  obtain ⟨d, hd⟩ : ∃ d, Crt.FB = d := ⟨_, rfl⟩
  have HD := Sd.mk hd
  clear hd
  go_enter Try.func11, Try.ntmps11
  go_wp2_with (first
    | (go_at_call 13; (with_reducible refine (new_any _).mono ?_); rintro e w1 ⟨g, b, rfl, hg, hm, -, -, hb⟩; (first | (have HB2 := Sd.mk (below_then HB1.out hb); have HL := Sd.mk (last_none _ g b hg d HD.out)) | (have HB1 := Sd.mk hb)); clear hb hg hm)
    | (go_at_call 58; (with_reducible refine HL.out.mono ?_); rintro e w3 ⟨rfl, hb⟩; have HB3 := Sd.mk (below_then HB2.out hb); clear hb)
    | (go_at_call 30; (with_reducible refine (Crt.reffirst_any _ d HD.out).mono ?_); rintro e w4 ⟨rfl, hb⟩; have HB4 := Sd.mk (below_then HB3.out hb); clear hb))
  go_ret
  exact ⟨rfl, HB4.out⟩
end Go.Proofs.Ytnomgkmeomlccaa.Kee
