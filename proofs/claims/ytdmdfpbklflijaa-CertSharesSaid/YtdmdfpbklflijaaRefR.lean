/- The reference's right signatures, and certificates; what is of a size that is looked at: walked. -/
import Derived.Test.YtdmdfpbklflijaaRwD
import Derived.Lib.QuietBelow
set_option linter.unusedVariables false
set_option linter.unusedSimpArgs false
namespace Go.Proofs.Ytdmdfpbklflijaa.Rp
open Go.RowKit Go.Sort Rd Api Own Mv App Num

def al16 (l : List ByteArray) : Prop := ∀ t ∈ l, t.size = 16
theorem al16_snoc {l : List ByteArray} {i : Nat} {t : ByteArray} (h : l[i]? = some t) (h1 : al16 (l.take i)) (h2 : t.size = 16) : al16 (l.take (i + 1)) := by
  intro u hu
  rw [List.take_add_one, h] at hu
  rcases List.mem_append.1 hu with e | e
  · exact h1 u e
  · simp at e; subst e; exact h2
set_option maxHeartbeats 8000000 in
set_option maxRecDepth 100000 in
theorem refsig_any (w : World) (x : Sg.Sig) (A : Option Addr) (c : Nat) (h : Sl Rk.str w A c x.tags) (n : Nat) (hn : n = x.tags.length) (r : Bool) (hr : r = true ↔ RightSig x) :
    Calls Try.prog 86 #[.agg #[.int .i64 x.node, .slice A n c]] w fun e w' => e = .returned (.bool r) ∧ RowKit.Below w.heap.size w w' := by
  have hb0 := below_one w (.cells #[.int .i64 x.node, .slice A n c] 39)
  have HB := Sd.mk hb0
  have HS := Sd.mk (h.below hb0)
  have X0 := blk_new w (.cells #[.int .i64 x.node, .slice A n c] 39)
  have nc := Nat.le_trans h.le h.cap
  rw [← hn] at nc
  have HN := Sd.mk hn
  have HR := Sd.mk hr
  clear h hn hr hb0
  go_enter Try.func86, Try.ntmps86
  go_upto_region 2 with (fail)
  generalize w.heap.size = Bx at X0 ⊢
  generalize w.alloc _ = W1 at X0 HB HS ⊢
  have c0 := blk_at X0 0 _ rfl
  have c1 := blk_at X0 1 _ rfl
  clear X0
  go_loopg [3] n (fun gk v3 wr => ∃ i, i + gk = n ∧ i ≤ 10 ∧ v3 = .int .i64 (i : Nat) ∧ Sd (al16 (x.tags.take i)) ∧ Sd (wr = W1))
  case atStart => exact ⟨0, by omega, by omega, rfl, ⟨fun t ht => by simp at ht⟩, ⟨rfl⟩⟩
  case round =>
    obtain ⟨i, hi, hi10, rfl, HA, HE⟩ := hrel
    obtain rfl := HE.out.symm
    by_cases hlt : i < n
    · have hii : (i : Int) < n := by omega
      have hil : i < x.tags.length := by rw [← HN.out]; exact hlt
      by_cases h10 : i < 10
      · have h10i : (i : Int) < 10 := by omega
        obtain ⟨b, o, rfl, c2, -⟩ := str_at HS.out.row hil
        obtain ⟨y, hy⟩ : ∃ y, x.tags[i] = y := ⟨_, rfl⟩
        rw [hy] at c2
        have HY := Sd.mk (show x.tags[i]? = some y by rw [List.getElem?_eq_getElem hil, hy])
        clear hy
        by_cases h16 : y.size = 16
        · have d0 : ((y.size : Int) != 16) = false := by rw [bne_eq_false_iff_eq]; omega
          have HA2 := Sd.mk (al16_snoc HY.out HA.out h16)
          clear h16
          go_wp2
          go_roundg (gk - 1)
          case measure => omega
          case rel => exact ⟨i + 1, by omega, by omega, by go_num, HA2, ⟨rfl⟩⟩
        · have d0 : ((y.size : Int) != 16) = true := by rw [bne_iff_ne]; omega
          obtain rfl : r = false := by
            cases r with
            | false => rfl
            | true => exact absurd ((HR.out.1 rfl).2.2.2 y (List.mem_of_getElem? HY.out)) h16
          clear h16
          go_wp2
          go_ret
          exact ⟨rfl, HB.out⟩
      · have h10i : decide ((i : Int) < 10) = false := decide_eq_false (by omega)
        have h7 : decide ((n : Int) ≤ 7) = false := decide_eq_false (by omega)
        have h7n : decide (n ≤ 7) = false := decide_eq_false (by omega)
        obtain rfl : r = false := by
          cases r with
          | false => rfl
          | true => have := (HR.out.1 rfl).2.2.1; rw [← HN.out] at this; omega
        by_cases hp0 : 0 ≤ x.node
        · have e0 : decide (0 ≤ x.node) = true := decide_eq_true hp0
          by_cases hp1 : x.node < 7
          · have e1 : decide (x.node < 7) = true := decide_eq_true hp1
            go_wp2
            go_ret
            exact ⟨rfl, HB.out⟩
          · have e1 : decide (x.node < 7) = false := decide_eq_false hp1
            go_wp2
            go_ret
            exact ⟨rfl, HB.out⟩
        · have e0 : decide (0 ≤ x.node) = false := decide_eq_false hp0
          go_wp2
          go_ret
          exact ⟨rfl, HB.out⟩
    · have hii : decide (i < n) = false := decide_eq_false (by omega)
      have hii2 : decide ((i : Int) < (n : Int)) = false := decide_eq_false (by omega)
      have HAL := Sd.mk (show al16 x.tags by have := HA.out; rwa [List.take_of_length_le (by rw [← HN.out]; omega)] at this)
      have HQ := Sd.mk (show r = (decide (0 ≤ x.node) && decide (x.node < 7) && decide ((n : Int) ≤ 7)) by
        rw [Bool.eq_iff_iff, HR.out]
        simp only [Bool.and_eq_true, decide_eq_true_eq]
        rw [HN.out]
        exact ⟨fun h => ⟨⟨h.1, h.2.1⟩, by have := h.2.2.1; omega⟩, fun h => ⟨h.1.1, h.1.2, by have := h.2; omega, HAL.out⟩⟩)
      clear HR
      by_cases hp0 : 0 ≤ x.node
      · have e0 : decide (0 ≤ x.node) = true := decide_eq_true hp0
        by_cases hp1 : x.node < 7
        · have e1 : decide (x.node < 7) = true := decide_eq_true hp1
          obtain ⟨b, hb⟩ : ∃ b, decide ((n : Int) ≤ 7) = b := ⟨_, rfl⟩
          have hb2 : decide (n ≤ 7) = b := by rw [← hb]; simp only [decide_eq_decide]; omega
          rw [hb, e0, e1] at HQ
          obtain rfl : r = b := HQ.out
          go_wp2
          go_ret
          exact ⟨rfl, HB.out⟩
        · have e1 : decide (x.node < 7) = false := decide_eq_false hp1
          rw [e0, e1] at HQ
          obtain rfl : r = false := HQ.out
          go_wp2
          go_ret
          exact ⟨rfl, HB.out⟩
      · have e0 : decide (0 ≤ x.node) = false := decide_eq_false hp0
        rw [e0] at HQ
        obtain rfl : r = false := HQ.out
        go_wp2
        go_ret
        exact ⟨rfl, HB.out⟩
/-- what holds of the first i -/
def Rt1 (xs : List Sg.Sig) (i : Nat) : Prop := Rises (-1) (xs.take i) ∧ ∀ x ∈ xs.take i, RightSig x
theorem rt1_snoc {xs : List Sg.Sig} {i : Nat} {x : Sg.Sig} (h : xs[i]? = some x) : Rt1 xs (i + 1) ↔ Rt1 xs i ∧ RightSig x ∧ lastOf (-1) (xs.take i) < x.node := by
  unfold Rt1
  rw [List.take_add_one, h]
  simp only [Option.toList_some, rises_snoc, List.mem_append, List.mem_singleton]
  constructor
  · rintro ⟨⟨h1, h2⟩, h3⟩
    exact ⟨⟨h1, fun y hy => h3 y (.inl hy)⟩, h3 x (.inr rfl), h2⟩
  · rintro ⟨⟨h1, h2⟩, h3, h4⟩
    exact ⟨⟨h1, h4⟩, fun y hy => by rcases hy with e | rfl; exact h2 y e; exact h3⟩
theorem rt1_all (xs : List Sg.Sig) (i : Nat) (h : Rises (-1) xs ∧ ∀ x ∈ xs, RightSig x) : Rt1 xs i := by
  have : ∀ (i : Nat) (l : List Sg.Sig) (k : Int), Rises k l → Rises k (l.take i) := by
    intro i
    induction i with
    | zero => intro l k _; trivial
    | succ i ih =>
      intro l k h
      cases l with
      | nil => trivial
      | cons y r => exact ⟨h.1, ih r y.node h.2⟩
  exact ⟨this i xs _ h.1, fun x hx => h.2 x (List.mem_of_mem_take hx)⟩
theorem lastOf_take {xs : List Sg.Sig} {i : Nat} {x : Sg.Sig} (h : xs[i]? = some x) : lastOf (-1) (xs.take (i + 1)) = x.node := by
  rw [List.take_add_one, h]; exact lastOf_snoc _ _ _
theorem right_parts (c : Cert) : RightCert c ↔ (0 ≤ c.view ∧ c.view ≤ 1000000 ∧ c.block.size = 32 ∧ c.sigs.length ≤ 7) ∧ Rises (-1) c.sigs ∧ ∀ x ∈ c.sigs, RightSig x :=
  ⟨fun ⟨h1, h2, h3, h4, h5⟩ => ⟨⟨h1.1, h1.2, h2, h3⟩, h4, h5⟩, fun ⟨⟨h1, h2, h3, h4⟩, h5, h6⟩ => ⟨⟨h1, h2⟩, h3, h4, h5, h6⟩⟩
end Go.Proofs.Ytdmdfpbklflijaa.Rp
