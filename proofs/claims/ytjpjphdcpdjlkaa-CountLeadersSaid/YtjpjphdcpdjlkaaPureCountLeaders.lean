/- Of every view and number of nodes the leader is told, and of as many views one behind the other as there are nodes each node leads once: for every two ints, without a condition. -/
import Derived.Test.YtjpjphdcpdjlkaaPCountLeadersx2
namespace Go.Proofs.Ytjpjphdcpdjlkaa.Pure
open Go.RowKit Go.Proofs.Ytjpjphdcpdjlkaa.PCountLeaders Go.Proofs.YtjpjphdcpdjlkaaW.PrintWords Go.Proofs.YtjpjphdcpdjlkaaW.PrintLast Go.Proofs.YtjpjphdcpdjlkaaW.PrintMore

theorem cl_wrap_in {x : Int} (h1 : -9223372036854775808 ≤ x) (h2 : x ≤ 9223372036854775807) : wrap64 x = x := by
  unfold wrap64; omega

theorem cl_awake : comitialaw04_awake.f = some true := by decide +kernel

theorem cl_leader (v n : Int) (h0 : 0 ≤ v) (h1 : 1 ≤ n) : count_Leader.f v n = some (v % n) := by
  unfold count_Leader.f
  rw [if_neg (by omega), if_neg (by omega), if_neg (by omega), Int.tmod_eq_emod_of_nonneg h0]

/-- the leaders of so many views -/
def leads (v n : Int) (m : Nat) : List Int := (List.range m).map fun (i : Nat) => (v + (i : Int)) % n

theorem leads_succ (v n : Int) (m : Nat) : leads v n (m + 1) = leads v n m ++ [(v + (m : Int)) % n] := by
  simp [leads, List.range_succ]

theorem leads_length (v n : Int) (m : Nat) : (leads v n m).length = m := by simp [leads]

theorem leads_get (v n : Int) (m : Nat) (i : Nat) (h : i < m) : rd (leads v n m) (i : Int) = (v + (i : Int)) % n := by
  simp [rd, leads, h]

theorem mod_apart {v n : Int} {i j : Nat} (h : i < j) (hj : (j : Int) < n) : (v + (i : Int)) % n ≠ (v + (j : Int)) % n := by
  intro e
  have h2 : (v + (j : Int) - (v + (i : Int))) % n = 0 := Int.emod_eq_emod_iff_emod_sub_eq_zero.mp e.symm
  have h3 : v + (j : Int) - (v + (i : Int)) = ((j - i : Nat) : Int) := by omega
  rw [h3, Int.emod_eq_of_lt (by omega) (by omega)] at h2
  omega

theorem has_no (l : List Int) (x : Int) (hl : l.length ≤ 100) (d : Nat) : ∀ (k i : Nat), l.length - i = d → d < k → (∀ j, i ≤ j → j < l.length → rd l (j : Int) ≠ x) →
    comitiaref04_Has.l0 k l x (i : Int) = some false := by
  induction d with
  | zero =>
    intro k i hd hk _
    obtain ⟨k, rfl⟩ : ∃ m, k = m + 1 := ⟨k - 1, by omega⟩
    simp only [comitiaref04_Has.l0]; rw [if_neg (by omega)]
  | succ d ih =>
    intro k i hd hk hx
    obtain ⟨k, rfl⟩ : ∃ m, k = m + 1 := ⟨k - 1, by omega⟩
    simp only [comitiaref04_Has.l0]; rw [if_pos (by omega), if_pos (by omega), if_neg (hx i (Nat.le_refl _) (by omega)), cl_wrap_in (by omega) (by omega)]
    exact ih k (i + 1) (by omega) (by omega) (fun j a b => hx j (by omega) b)

theorem once_all (v n : Int) (h1 : 1 ≤ n) (hn : n ≤ 100) (m : Nat) (hm : (m : Int) = n) (d : Nat) : ∀ (k i : Nat), m - i = d → i ≤ m → d + 200 < k →
    comitiaref04_Once.l0 k (leads v n m) n (leads v n i) (i : Int) = some (leads v n m) := by
  induction d with
  | zero =>
    intro k i hd hi hk
    obtain ⟨k, rfl⟩ : ∃ m, k = m + 1 := ⟨k - 1, by omega⟩
    obtain rfl : i = m := by omega
    simp only [comitiaref04_Once.l0]; rw [if_neg (by rw [leads_length]; omega)]
  | succ d ih =>
    intro k i hd hi hk
    obtain ⟨k, rfl⟩ : ∃ m, k = m + 1 := ⟨k - 1, by omega⟩
    have hg := leads_get v n m i (by omega)
    have hp := Int.emod_nonneg (v + (i : Int)) (show n ≠ 0 by omega)
    have hq := Int.emod_lt_of_pos (v + (i : Int)) (show 0 < n by omega)
    simp only [comitiaref04_Once.l0]; rw [if_pos (by rw [leads_length]; omega), if_pos (by omega), hg, if_pos hp, if_pos hq]
    have hh : comitiaref04_Has.f k (leads v n i) ((v + (i : Int)) % n) = some false := by
      unfold comitiaref04_Has.f
      refine has_no _ _ (by rw [leads_length]; omega) i k 0 (by rw [leads_length]; omega) (by omega) (fun j _ hj => ?_)
      rw [leads_length] at hj
      rw [leads_get v n i j hj]
      exact mod_apart hj (by omega)
    rw [hh]; simp only [Option.bind_some, Bool.false_eq_true, if_false]
    rw [if_pos (by rw [leads_length]; omega), cl_wrap_in (by omega) (by omega), ← leads_succ]
    exact ih k (i + 1) (by omega) (by omega) (by omega)

theorem law_loop (v n : Int) (h0 : 0 ≤ v) (hv : v ≤ 1099511627776) (h1 : 1 ≤ n) (hn : n ≤ 100) (m : Nat) (hm : (m : Int) = n) (d : Nat) : ∀ (k i : Nat), m - i = d → i ≤ m → d + 400 < k →
    comitialaw04_CountLeaders.l0 k v n (leads v n i) (i : Int) = some true := by
  induction d with
  | zero =>
    intro k i hd hi hk
    obtain ⟨k, rfl⟩ : ∃ m, k = m + 1 := ⟨k - 1, by omega⟩
    obtain rfl : i = m := by omega
    simp only [comitialaw04_CountLeaders.l0]; rw [if_neg (by omega)]
    have := once_all v n h1 hn i hm i k 0 (by omega) (by omega) (by omega)
    unfold comitiaref04_Once.f
    rw [show ([] : List Int) = leads v n 0 from rfl, show (0 : Int) = ((0 : Nat) : Int) from rfl, this]; simp only [Option.bind_some]
    rw [leads_length, hm]; simp
  | succ d ih =>
    intro k i hd hi hk
    obtain ⟨k, rfl⟩ : ∃ m, k = m + 1 := ⟨k - 1, by omega⟩
    simp only [comitialaw04_CountLeaders.l0]; rw [if_pos (by omega), cl_wrap_in (x := v + (i : Int)) (by omega) (by omega), cl_leader _ _ (by omega) h1]
    simp only [Option.bind_some]
    rw [if_pos (by rw [leads_length]; omega), cl_wrap_in (by omega) (by omega), ← leads_succ]
    exact ih k (i + 1) (by omega) (by omega) (by omega)

theorem CountLeaders : comitialaw04_CountLeaders.Pure := by
  intro v n wv wn
  obtain ⟨a1, a2⟩ : -9223372036854775808 ≤ v ∧ v ≤ 9223372036854775807 := by simpa [Lit.wf, IntKind.min, IntKind.max, IntKind.bits, IntKind.signed] using wv
  obtain ⟨b1, b2⟩ : -9223372036854775808 ≤ n ∧ n ≤ 9223372036854775807 := by simpa [Lit.wf, IntKind.min, IntKind.max, IntKind.bits, IntKind.signed] using wn
  refine ⟨1000, ?_⟩
  unfold comitialaw04_CountLeaders.f
  by_cases hv : v < 0
  · have e : count_Leader.f v n = some 0 := by unfold count_Leader.f; rw [if_pos hv]
    rw [e, cl_awake]; simp only [Option.bind_some, if_true]; rw [if_pos hv]
    simp only [comitialaw04_CountLeaders.j0, if_true, cl_awake, Option.bind_some]; rfl
  by_cases hn : n < 1
  · have e : count_Leader.f v n = some 0 := by unfold count_Leader.f; rw [if_neg hv, if_pos hn]
    rw [e, cl_awake]; simp only [Option.bind_some, if_true]; rw [if_neg hv, decide_eq_true hn]
    simp only [comitialaw04_CountLeaders.j0, if_true, cl_awake, Option.bind_some]; rfl
  have e := cl_leader v n (by omega) (by omega)
  have hp := Int.emod_nonneg v (show n ≠ 0 by omega)
  have hq := Int.emod_lt_of_pos v (show 0 < n by omega)
  have hle : v % n ≤ v := by
    have := Int.mul_ediv_add_emod v n
    have := Int.mul_nonneg (show 0 ≤ n by omega) (Int.ediv_nonneg (show 0 ≤ v by omega) (show 0 ≤ n by omega))
    omega
  rw [e, cl_awake]; simp only [Option.bind_some, if_true]; rw [if_neg hv, decide_eq_false hn]
  have hz : (Int.tmod (wrap64 (v - v % n)) n != 0) = false := by
    rw [cl_wrap_in (by omega) (by omega), Int.tmod_eq_emod_of_nonneg (by omega)]
    have : (v - v % n) % n = 0 := Int.emod_eq_zero_of_dvd (Int.dvd_self_sub_emod)
    rw [this]; rfl
  simp only [comitialaw04_CountLeaders.j0, Bool.false_eq_true, if_false]
  rw [if_neg (by omega), if_neg (by omega), if_neg (by omega), hz]
  simp only [comitialaw04_CountLeaders.j1, Bool.false_eq_true, if_false]
  by_cases hn2 : n > 100
  · rw [if_pos hn2]; simp only [comitialaw04_CountLeaders.j2, if_true]
  rw [if_neg hn2]
  by_cases hv2 : v > 1099511627776
  · rw [decide_eq_true hv2]; simp only [comitialaw04_CountLeaders.j2, if_true]
  rw [decide_eq_false hv2]
  simp only [comitialaw04_CountLeaders.j2, Bool.false_eq_true, if_false]
  exact law_loop v n (by omega) (by omega) (by omega) (by omega) n.toNat (by omega) n.toNat 997 0 (by omega) (by omega) (by omega)

end Go.Proofs.Ytjpjphdcpdjlkaa.Pure
