/- Whether a signature holds: walked. -/
import Derived.Test.YtnomgkmeomlccaaMacK
import Derived.Test.YtnomgkmeomlccaaArr
import Derived.Test.YtnomgkmeomlccaaMacN
import Derived.Deep.RegionHeld3
set_option linter.unusedVariables false
set_option linter.unusedSimpArgs false
namespace Go.Proofs.Ytnomgkmeomlccaa.Mac
open Go.RowKit Rd Api Own Mv Num Dig

def all16 (l : List ByteArray) : Prop := ∀ j (h : j < l.length), l[j].size = 16
set_option maxHeartbeats 4000000 in
set_option maxRecDepth 100000 in
theorem index_any (w : World) (A : Option Addr) (c : Nat) (l : List ByteArray) (h : Sl Rk.str w A c l) :
    Calls Try.prog 167 #[.slice A l.length c, .func (.func 156) #[] #[]] w fun e w' => ∃ x : Int, e = .returned (.int .i64 x) ∧ (0 ≤ x ∧ ¬ all16 l ∨ x = -1 ∧ all16 l) ∧ w' = w := by
  have hc := Nat.le_trans h.le h.cap
  have ROW := Sd.mk h.row
  obtain ⟨n, hn⟩ : ∃ n, n = l.length := ⟨_, rfl⟩
  have HN := Sd.mk hn
  rw [← hn] at hc ⊢
  clear hn h
  go_enter Try.func167, Try.ntmps167
  go_wp2
  go_loopg [8] n (fun gk v8 wr => ∃ i, i + gk = n ∧ v8 = .int .i64 (i : Nat) ∧ Sd (∀ j (hj : j < l.length), j < i → l[j].size = 16) ∧ Sd (wr = w))
  case atStart => exact ⟨0, by omega, rfl, ⟨fun j _ hj => by omega⟩, ⟨rfl⟩⟩
  case round =>
    obtain ⟨i, hi, rfl, HL, HW⟩ := hrel
    obtain rfl := HW.out
    by_cases hlt : i < n
    · obtain ⟨b, o, rfl, hcell, -⟩ := str_at ROW.out (i := i) (by rw [← HN.out]; exact hlt)
      obtain ⟨x, hx⟩ : ∃ x, l[i]'(by rw [← HN.out]; exact hlt) = x := ⟨_, rfl⟩
      rw [hx] at hcell
      have HX := Sd.mk hx
      have hii : (i : Int) < n := by omega
      clear hx
      by_cases h16 : x.size = 16
      · have d16 : ((x.size : Int) != 16) = false := by rw [bne_eq_false_iff_eq]; omega
        have H16 := Sd.mk h16
        clear h16
        go_wp2
        go_roundg (gk - 1)
        case measure => omega
        case rel => exact ⟨i + 1, by omega, by go_num, ⟨fun j hj hji => by
          by_cases e : j = i
          · subst e; rw [HX.out]; exact H16.out
          · exact HL.out j hj (by omega)⟩, ⟨rfl⟩⟩
      · have d16 : ((x.size : Int) != 16) = true := by rw [bne_iff_ne]; omega
        have H16 := Sd.mk h16
        clear h16
        go_wp2
        go_ret
        refine ⟨(i : Int), rfl, .inl ⟨by omega, fun h => H16.out ?_⟩, rfl⟩
        rw [← HX.out]
        exact h i _
    · have hii : decide (i < n) = false := decide_eq_false (by omega)
      go_wp2
      go_ret
      exact ⟨-1, rfl, .inr ⟨rfl, fun j hj => HL.out j hj (by have := HN.out; omega)⟩, rfl⟩
set_option maxHeartbeats 4000000 in
set_option maxRecDepth 100000 in
theorem contains_yes (w : World) (A : Option Addr) (c : Nat) (l : List ByteArray) (h : Sl Rk.str w A c l) (ha : ¬ all16 l) :
    Calls Try.prog 155 #[.slice A l.length c, .func (.func 156) #[] #[]] w fun e w' => e = .returned (.bool true) ∧ w' = w := by
  have hc := index_any w A c l h
  clear h
  go_enter Try.func155, Try.ntmps155
  go_wp2_with (first
    | (go_at_call 167; (with_reducible refine hc.mono ?_); rintro e w1 ⟨x, rfl, hx, rfl⟩
       have h0 : 0 ≤ x := (by rcases hx with h | h; exact h.1; exact absurd h.2 ha)
       clear hx))
  go_ret
  exact ⟨rfl, rfl⟩
set_option maxHeartbeats 4000000 in
set_option maxRecDepth 100000 in
theorem contains_no (w : World) (A : Option Addr) (c : Nat) (l : List ByteArray) (h : Sl Rk.str w A c l) (ha : all16 l) :
    Calls Try.prog 155 #[.slice A l.length c, .func (.func 156) #[] #[]] w fun e w' => e = .returned (.bool false) ∧ w' = w := by
  have hc := index_any w A c l h
  clear h
  go_enter Try.func155, Try.ntmps155
  go_wp2_with (first
    | (go_at_call 167; (with_reducible refine hc.mono ?_); rintro e w1 ⟨x, rfl, hx, rfl⟩
       obtain rfl : x = -1 := (by rcases hx with h | h; exact absurd ha h.2; exact h.1)
       clear hx))
  go_ret
  exact ⟨rfl, rfl⟩

/-- a signature's tags hold for a node -/
def holdsF (seed : ByteArray) (tn n : Int) (tx : ByteArray) (fr : Int) (l : List ByteArray) : Prop :=
  (1 ≤ n ∧ n ≤ 7) ∧ (0 ≤ tn ∧ tn < n) ∧ (0 ≤ fr ∧ fr < n) ∧ (l.length : Int) = n ∧ all16 l ∧ l[tn.toNat]? = some (mtag seed (endF fr) (endF tn) tx)

def Ks (w : World) (g : Nat) (fr : Int) (v : Value) (W : World) : Prop := W.heap[g]? = some (.cells #[.int .i64 fr, v] 51 (0, 0)) ∧ Below w.heap.size w W
theorem mv_ks (w : World) (g : Nat) (fr : Int) (v : Value) : Mv (Ks w g fr v) := mv_and (mv_blk _ _) (mv_bel w)
set_option maxHeartbeats 4000000 in
set_option maxRecDepth 100000 in
theorem holds_1 (w : World) (seed tx : ByteArray) (tn n fr : Int) (A : Option Addr) (c : Nat) (l : List ByteArray) (h0 : ¬ (1 ≤ n ∧ n ≤ 7)) :
    Calls Try.prog 137 #[.string seed, .int .i64 tn, .int .i64 n, .string tx, .agg #[.int .i64 fr, .slice A l.length c]] w fun e w' => e = .returned (.bool false) ∧ Below w.heap.size w w' := by
  have hN := fun W => nodes_any W n false (decide_eq_false h0)
  clear h0
  go_enter Try.func137, Try.ntmps137
  go_wp2_with (first
    | (go_at_call 72; (with_reducible refine (hN _).mono ?_); rintro e w1 ⟨rfl, rfl⟩))
  go_ret
  exact ⟨rfl, below_one _ _⟩
set_option maxHeartbeats 4000000 in
set_option maxRecDepth 100000 in
theorem holds_2 (w : World) (seed tx : ByteArray) (tn n fr : Int) (A : Option Addr) (c : Nat) (l : List ByteArray) (h0 : 1 ≤ n ∧ n ≤ 7) (h1 : tn < 0) :
    Calls Try.prog 137 #[.string seed, .int .i64 tn, .int .i64 n, .string tx, .agg #[.int .i64 fr, .slice A l.length c]] w fun e w' => e = .returned (.bool false) ∧ Below w.heap.size w w' := by
  have hN := fun W => nodes_any W n true (decide_eq_true h0)
  have d1 : decide (tn < 0) = true := decide_eq_true (by omega)
  clear h0 h1
  go_enter Try.func137, Try.ntmps137
  go_wp2_with (first
    | (go_at_call 72; (with_reducible refine (hN _).mono ?_); rintro e w1 ⟨rfl, rfl⟩))
  go_ret
  exact ⟨rfl, below_one _ _⟩
set_option maxHeartbeats 4000000 in
set_option maxRecDepth 100000 in
theorem holds_3 (w : World) (seed tx : ByteArray) (tn n fr : Int) (A : Option Addr) (c : Nat) (l : List ByteArray) (h0 : 1 ≤ n ∧ n ≤ 7) (h1 : ¬ tn < 0) (h2 : n ≤ tn) :
    Calls Try.prog 137 #[.string seed, .int .i64 tn, .int .i64 n, .string tx, .agg #[.int .i64 fr, .slice A l.length c]] w fun e w' => e = .returned (.bool false) ∧ Below w.heap.size w w' := by
  have hN := fun W => nodes_any W n true (decide_eq_true h0)
  have d1 : decide (tn < 0) = false := decide_eq_false (by omega)
  have d2 : decide (n ≤ tn) = true := decide_eq_true (by omega)
  clear h0 h1 h2
  go_enter Try.func137, Try.ntmps137
  go_wp2_with (first
    | (go_at_call 72; (with_reducible refine (hN _).mono ?_); rintro e w1 ⟨rfl, rfl⟩))
  go_ret
  exact ⟨rfl, below_one _ _⟩
set_option maxHeartbeats 4000000 in
set_option maxRecDepth 100000 in
theorem holds_4 (w : World) (seed tx : ByteArray) (tn n fr : Int) (A : Option Addr) (c : Nat) (l : List ByteArray) (h0 : 1 ≤ n ∧ n ≤ 7) (h1 : ¬ tn < 0) (h2 : ¬ n ≤ tn) (h3 : fr < 0) :
    Calls Try.prog 137 #[.string seed, .int .i64 tn, .int .i64 n, .string tx, .agg #[.int .i64 fr, .slice A l.length c]] w fun e w' => e = .returned (.bool false) ∧ Below w.heap.size w w' := by
  have hN := fun W => nodes_any W n true (decide_eq_true h0)
  have d1 : decide (tn < 0) = false := decide_eq_false (by omega)
  have d2 : decide (n ≤ tn) = false := decide_eq_false (by omega)
  have d3 : decide (fr < 0) = true := decide_eq_true (by omega)
  clear h0 h1 h2 h3
  go_enter Try.func137, Try.ntmps137
  go_wp2_with (first
    | (go_at_call 72; (with_reducible refine (hN _).mono ?_); rintro e w1 ⟨rfl, rfl⟩))
  go_ret
  exact ⟨rfl, below_one _ _⟩
set_option maxHeartbeats 4000000 in
set_option maxRecDepth 100000 in
theorem holds_5 (w : World) (seed tx : ByteArray) (tn n fr : Int) (A : Option Addr) (c : Nat) (l : List ByteArray) (h0 : 1 ≤ n ∧ n ≤ 7) (h1 : ¬ tn < 0) (h2 : ¬ n ≤ tn) (h3 : ¬ fr < 0) (h4 : n ≤ fr) :
    Calls Try.prog 137 #[.string seed, .int .i64 tn, .int .i64 n, .string tx, .agg #[.int .i64 fr, .slice A l.length c]] w fun e w' => e = .returned (.bool false) ∧ Below w.heap.size w w' := by
  have hN := fun W => nodes_any W n true (decide_eq_true h0)
  have d1 : decide (tn < 0) = false := decide_eq_false (by omega)
  have d2 : decide (n ≤ tn) = false := decide_eq_false (by omega)
  have d3 : decide (fr < 0) = false := decide_eq_false (by omega)
  have d4 : decide (n ≤ fr) = true := decide_eq_true (by omega)
  clear h0 h1 h2 h3 h4
  go_enter Try.func137, Try.ntmps137
  go_wp2_with (first
    | (go_at_call 72; (with_reducible refine (hN _).mono ?_); rintro e w1 ⟨rfl, rfl⟩))
  go_ret
  exact ⟨rfl, below_one _ _⟩
set_option maxHeartbeats 4000000 in
set_option maxRecDepth 100000 in
theorem holds_6 (w : World) (seed tx : ByteArray) (tn n fr : Int) (A : Option Addr) (c : Nat) (l : List ByteArray) (h0 : 1 ≤ n ∧ n ≤ 7) (h1 : ¬ tn < 0) (h2 : ¬ n ≤ tn) (h3 : ¬ fr < 0) (h4 : ¬ n ≤ fr) (h5 : ¬ (l.length : Int) = n) :
    Calls Try.prog 137 #[.string seed, .int .i64 tn, .int .i64 n, .string tx, .agg #[.int .i64 fr, .slice A l.length c]] w fun e w' => e = .returned (.bool false) ∧ Below w.heap.size w w' := by
  have hN := fun W => nodes_any W n true (decide_eq_true h0)
  have d1 : decide (tn < 0) = false := decide_eq_false (by omega)
  have d2 : decide (n ≤ tn) = false := decide_eq_false (by omega)
  have d3 : decide (fr < 0) = false := decide_eq_false (by omega)
  have d4 : decide (n ≤ fr) = false := decide_eq_false (by omega)
  have d5 : ((l.length : Int) != n) = true := by rw [bne_iff_ne]; exact h5
  clear h0 h1 h2 h3 h4 h5
  go_enter Try.func137, Try.ntmps137
  go_wp2_with (first
    | (go_at_call 72; (with_reducible refine (hN _).mono ?_); rintro e w1 ⟨rfl, rfl⟩))
  go_ret
  exact ⟨rfl, below_one _ _⟩
set_option maxHeartbeats 4000000 in
set_option maxRecDepth 100000 in
theorem holds_7 (w : World) (seed tx : ByteArray) (tn n fr : Int) (A : Option Addr) (c : Nat) (l : List ByteArray) (h0 : 1 ≤ n ∧ n ≤ 7) (h1 : ¬ tn < 0) (h2 : ¬ n ≤ tn) (h3 : ¬ fr < 0) (h4 : ¬ n ≤ fr) (h5 : (l.length : Int) = n) (h : Sl Rk.str w A c l) (ha : ¬ all16 l) :
    Calls Try.prog 137 #[.string seed, .int .i64 tn, .int .i64 n, .string tx, .agg #[.int .i64 fr, .slice A l.length c]] w fun e w' => e = .returned (.bool false) ∧ Below w.heap.size w w' := by
  have hN := fun W => nodes_any W n true (decide_eq_true h0)
  have d1 : decide (tn < 0) = false := decide_eq_false (by omega)
  have d2 : decide (n ≤ tn) = false := decide_eq_false (by omega)
  have d3 : decide (fr < 0) = false := decide_eq_false (by omega)
  have d4 : decide (n ≤ fr) = false := decide_eq_false (by omega)
  have d5 : ((l.length : Int) != n) = false := by rw [bne_eq_false_iff_eq]; exact h5
  have hS := (h.below (below_one w (.cells #[.int .i64 fr, .slice A l.length c] 51)))
  have hC := contains_yes _ A c l hS ha
  clear h0 h1 h2 h3 h4 h5 h hS
  go_enter Try.func137, Try.ntmps137
  go_wp2_with (first
    | (go_at_call 72; (with_reducible refine (hN _).mono ?_); rintro e w1 ⟨rfl, rfl⟩)
    | (go_at_call 155; (with_reducible refine hC.mono ?_); rintro e w2 ⟨rfl, rfl⟩))
  go_ret
  exact ⟨rfl, below_one _ _⟩
end Go.Proofs.Ytnomgkmeomlccaa.Mac
