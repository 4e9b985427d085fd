/- Of every number of nodes the faults, the quorum and the weak one are the chapter's, and two quorums have more than the faults in common: for every int, without a condition. -/
import Derived.Test.YtjpjphdcpdjlkaaPCountSizesx1
namespace Go.Proofs.Ytjpjphdcpdjlkaa.Pure
open Go.RowKit Go.Proofs.Ytjpjphdcpdjlkaa.PCountSizes Go.Proofs.YtjpjphdcpdjlkaaW.PrintWords Go.Proofs.YtjpjphdcpdjlkaaW.PrintLast Go.Proofs.YtjpjphdcpdjlkaaW.PrintMore

theorem wrap_in {x : Int} (h1 : -9223372036854775808 ≤ x) (h2 : x ≤ 9223372036854775807) : wrap64 x = x := by
  unfold wrap64; omega

theorem mx_ge (a b : Int) : a ≤ mx a b ∧ b ≤ mx a b ∧ (mx a b = a ∨ mx a b = b) := by
  unfold mx; split <;> omega

theorem faults_is (n : Int) (h1 : -9223372036854775808 ≤ n) (h2 : n ≤ 9223372036854775807) : count_Faults.f n = some ((mx n 1 - 1) / 3) := by
  have hm := mx_ge n 1
  unfold count_Faults.f
  rw [wrap_in (x := mx n 1 - 1) (by omega) (by omega), Int.tdiv_eq_ediv_of_nonneg (by omega), wrap_in (by omega) (by omega)]

theorem quorum_is (n : Int) (h1 : -9223372036854775808 ≤ n) (h2 : n ≤ 9223372036854775807) : count_Quorum.f n = some (mx n 1 - (mx n 1 - 1) / 3) := by
  have hm := mx_ge n 1
  unfold count_Quorum.f
  rw [faults_is n h1 h2]; simp only [Option.bind_some]
  rw [wrap_in (by omega) (by omega)]

theorem weak_is (n : Int) (h1 : -9223372036854775808 ≤ n) (h2 : n ≤ 9223372036854775807) : count_Weak.f n = some ((mx n 1 - 1) / 3 + 1) := by
  have hm := mx_ge n 1
  unfold count_Weak.f
  rw [faults_is n h1 h2]; simp only [Option.bind_some]
  rw [wrap_in (by omega) (by omega)]

theorem awake_is : comitialaw04_awake.f = some true := by
  unfold comitialaw04_awake.f
  rw [quorum_is 4 (by omega) (by omega)]; simp only [Option.bind_some]
  rw [weak_is 4 (by omega) (by omega)]; rfl

theorem ref_is (n : Int) (h1 : -9223372036854775808 ≤ n) (h2 : n ≤ 9223372036854775807) : comitiaref04_Faults.f n = some ((mx n 1 - 1) / 3) := by
  unfold comitiaref04_Faults.f comitiaref04_Faults3.f
  by_cases h : n < 4
  · rw [if_pos h]; congr 1; unfold mx; split <;> omega
  · rw [if_neg h, wrap_in (x := n - 3) (by omega) (by omega), if_neg (by omega), wrap_in (x := n - 3 - 1) (by omega) (by omega), Int.tdiv_eq_ediv_of_nonneg (by omega), wrap_in (by omega) (by omega)]
    simp only [Option.bind_some]
    rw [wrap_in (by omega) (by omega)]; congr 1; unfold mx; split <;> omega

theorem CountSizes : comitialaw04_CountSizes.Pure := by
  intro n w
  obtain ⟨h1, h2⟩ : -9223372036854775808 ≤ n ∧ n ≤ 9223372036854775807 := by simpa [Lit.wf, IntKind.min, IntKind.max, IntKind.bits, IntKind.signed] using w
  have hm := mx_ge n 1
  refine ⟨1, ?_⟩
  unfold comitialaw04_CountSizes.f
  rw [faults_is n h1 h2, quorum_is n h1 h2, weak_is n h1 h2, awake_is, ref_is n h1 h2]
  simp only [Option.bind_some, if_true]
  rw [wrap_in (x := mx n 1 - (mx n 1 - 1) / 3) (by omega) (by omega), if_pos rfl, wrap_in (x := (mx n 1 - 1) / 3 + 1) (by omega) (by omega)]
  unfold comitialaw04_CountSizes.j0
  simp only [bne_self_eq_false, Bool.false_eq_true, if_false]
  by_cases ha : n < 1
  · rw [if_pos ha]
  rw [if_neg ha]
  by_cases hb : n > 1099511627776
  · rw [if_pos hb]
  have e : mx n 1 = n := by unfold mx; split <;> omega
  rw [if_neg hb, e]
  rw [wrap_in (x := 2 * _) (by omega) (by omega), wrap_in (x := 2 * _ - _) (by omega) (by omega), wrap_in (x := 3 * _) (by omega) (by omega), wrap_in (x := 3 * _ + 1) (by omega) (by omega), wrap_in (x := 3 * _ + 4) (by omega) (by omega)]
  rw [if_pos (by omega), if_pos (by omega)]
  congr 1
  exact decide_eq_true (by omega)

end Go.Proofs.Ytjpjphdcpdjlkaa.Pure
