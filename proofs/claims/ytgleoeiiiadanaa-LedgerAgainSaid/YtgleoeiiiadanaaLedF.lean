/- Lists of requests: the same, of a size that is looked at, all in one; the reference's Index, Entries, Digest: walked. -/
import Derived.Test.YtgleoeiiiadanaaLedE
set_option linter.unusedVariables false
set_option linter.unusedSimpArgs false
namespace Go.Proofs.Ytgleoeiiiadanaa.Led
open Go.RowKit Rd Api Own Mv Num Dig Wtx

theorem bytes_ne {x y : ByteArray} (h : x ≠ y) : (x.toList == y.toList) = false := by
  rw [beq_eq_false_iff_ne]
  intro e
  rw [ByteArray.toList_eq, ByteArray.toList_eq] at e
  exact h (ByteArray.ext (Array.toList_inj.1 e))
-- <L1
set_option maxHeartbeats 4000000 in
set_option maxRecDepth 100000 in
theorem same_any (w : World) (A B : Option Addr) (c d : Nat) (l k : List Rq) (hl : Sl rqN w A c l) (hk : Sl rqN w B d k) (r : Bool) (hr : r = true ↔ l = k) :
    Calls Try.prog 46 #[.slice A l.length c, .slice B k.length d] w fun e w' => e = .returned (.bool r) ∧ Below w.heap.size w w' := by
  have R1 := Sd.mk hl.row
  have R2 := Sd.mk hk.row
  have lc := Nat.le_trans hl.le hl.cap
  have kd := Nat.le_trans hk.le hk.cap
  obtain ⟨n, hn⟩ : ∃ n, n = l.length := ⟨_, rfl⟩
  obtain ⟨m, hm⟩ : ∃ m, m = k.length := ⟨_, rfl⟩
  have HN := Sd.mk hn
  have HM := Sd.mk hm
  have no : l ≠ k → r = false := fun h => by
    cases r with
    | false => rfl
    | true => exact absurd (hr.1 rfl) h
  have yes : l = k → r = true := hr.2
  have NO := Sd.mk no
  have YES := Sd.mk yes
  rw [← hn] at lc ⊢
  rw [← hm] at kd ⊢
  clear hn hm hl hk hr no yes
  by_cases hnm : n = m
  · subst hnm
    go_enter Try.func46, Try.ntmps46
    go_wp2
    go_loopg [5] n (fun gk v5 wr => ∃ i, i + gk = n ∧ v5 = .int .i64 (i : Nat) ∧ Sd (∀ j, j < i → l[j]? = k[j]?) ∧ Sd (Below w.heap.size w wr))
    case atStart => exact ⟨0, by omega, rfl, ⟨fun j hj => by omega⟩, ⟨Below.refl _ _⟩⟩
    case round =>
      obtain ⟨i, hi, rfl, HE, HB⟩ := hrel
      by_cases hlt : i < n
      · have hil : i < l.length := by rw [← HN.out]; exact hlt
        have hik : i < k.length := by rw [← HM.out]; exact hlt
        obtain ⟨b1, o1, rfl, p0, p1, p2⟩ := rqN_at R1.out hil
        obtain ⟨b2, o2, rfl, q0, q1, q2⟩ := rqN_at R2.out hik
        obtain ⟨x, hx⟩ : ∃ x, l[i] = x := ⟨_, rfl⟩
        obtain ⟨y, hy⟩ : ∃ y, k[i] = y := ⟨_, rfl⟩
        rw [hx] at p0 p1 p2
        rw [hy] at q0 q1 q2
        have p0 := cell_below HB.out p0
        have p1 := cell_below HB.out p1
        have p2 := cell_below HB.out p2
        have q0 := cell_below HB.out q0
        have q1 := cell_below HB.out q1
        have q2 := cell_below HB.out q2
        have HX := Sd.mk (show l[i]? = some x by rw [List.getElem?_eq_getElem hil, hx])
        have HY := Sd.mk (show k[i]? = some y by rw [List.getElem?_eq_getElem hik, hy])
        have hii : (i : Int) < n := by omega
        clear hx hy hil hik
        obtain ⟨xc, xs, xb⟩ := x
        obtain ⟨yc, ys, yb⟩ := y
        simp only at p0 p1 p2 q0 q1 q2
        have hdiff : (⟨xc, xs, xb⟩ : Rq) ≠ ⟨yc, ys, yb⟩ → r = false := fun h => NO.out (fun e => by subst e; exact h (Option.some.inj (HX.out.symm.trans HY.out)))
        by_cases e0 : xc = yc
        · subst e0
          by_cases e1 : xs = ys
          · subst e1
            by_cases e2 : xb = yb
            · subst e2
              clear hdiff
              go_upto_region 6 with (fail)
              go_quiet (fail)
              go_wp2
              go_roundg (gk - 1)
              case measure => omega
              case rel => exact ⟨i + 1, by omega, by go_num, ⟨fun j hj => by
                by_cases e : j = i
                · subst e; rw [HX.out, HY.out]
                · exact HE.out j (by omega)⟩, ⟨below_drewN HB.out _⟩⟩
            · have h2 := bytes_ne e2
              obtain rfl : r = false := hdiff (fun h => e2 (by injection h))
              clear e2 hdiff
              go_upto_region 6 with (fail)
              go_quiet (fail)
              go_wp2
              go_ret
              exact ⟨rfl, below_drewN HB.out _⟩
          · have h1 : (xs == ys) = false := beq_eq_false_iff_ne.2 e1
            obtain rfl : r = false := hdiff (fun h => e1 (by injection h))
            clear e1 hdiff
            go_upto_region 6 with (fail)
            go_quiet (fail)
            go_wp2
            go_ret
            exact ⟨rfl, below_drewN HB.out _⟩
        · have h0 : (xc == yc) = false := beq_eq_false_iff_ne.2 e0
          obtain rfl : r = false := hdiff (fun h => e0 (by injection h))
          clear e0 hdiff
          go_upto_region 6 with (fail)
          go_quiet (fail)
          go_wp2
          go_ret
          exact ⟨rfl, below_drewN HB.out _⟩
      · have hii : decide (i < n) = false := decide_eq_false (by omega)
        obtain rfl : i = n := by omega
        obtain rfl : r = true := YES.out (List.ext_getElem? fun j => by
          by_cases e : j < i
          · exact HE.out j e
          · rw [List.getElem?_eq_none (by have := HN.out; omega), List.getElem?_eq_none (by have := HM.out; omega)])
        go_wp2
        go_ret
        exact ⟨rfl, HB.out⟩
  · have hne : ((n : Int) != (m : Int)) = true := by rw [bne_iff_ne]; omega
    obtain rfl : r = false := NO.out (fun e => hnm (by rw [HN.out, HM.out, e]))
    clear hnm
    go_enter Try.func46, Try.ntmps46
    go_wp2
    go_ret
    exact ⟨rfl, Below.refl _ _⟩
-- L1>
/-- the first index, -1 of none -/
def idxI (l : List Rq) (c s : Int) : Int := match idx l c s with | some j => (j : Int) | none => -1
set_option maxHeartbeats 4000000 in
set_option maxRecDepth 100000 in
theorem refidx_any (w : World) (A : Option Addr) (q : Nat) (l : List Rq) (hl : Sl rqN w A q l) (c s : Int) (r : Int) (hr : idxI l c s = r) :
    Calls Try.prog 44 #[.slice A l.length q, .int .i64 c, .int .i64 s] w fun e w' => e = .returned (.int .i64 r) ∧ w' = w := by
  have R1 := Sd.mk hl.row
  have lc := Nat.le_trans hl.le hl.cap
  obtain ⟨n, hn⟩ : ∃ n, n = l.length := ⟨_, rfl⟩
  have HN := Sd.mk hn
  have HR := Sd.mk hr
  rw [← hn] at lc ⊢
  clear hn hl hr
  go_enter Try.func44, Try.ntmps44
  go_wp2
  go_loop [7] (fun v7 => ∃ i : Nat, i ≤ n ∧ v7 = .int .i64 i ∧ Sd (∀ j, j < i → ¬ At l c s j)) (fun v7 => n - (intOf v7).toNat)
  case atStart => exact ⟨0, by omega, rfl, ⟨fun j hj => by omega⟩⟩
  case round =>
    obtain ⟨i, hi, rfl, HE⟩ := hrel
    by_cases hlt : i < n
    · have hil : i < l.length := by rw [← HN.out]; exact hlt
      obtain ⟨b1, o1, rfl, p0, p1, p2⟩ := rqN_at R1.out hil
      obtain ⟨x, hx⟩ : ∃ x, l[i] = x := ⟨_, rfl⟩
      rw [hx] at p0 p1 p2
      have HX := Sd.mk (show l[i]? = some x by rw [List.getElem?_eq_getElem hil, hx])
      have hii : (i : Int) < n := by omega
      clear hx hil
      obtain ⟨xc, xs, xb⟩ := x
      simp only at p0 p1 p2
      by_cases e0 : xc = c
      · subst e0
        by_cases e1 : xs = s
        · subst e1
          have hrj : r = (i : Nat) := by
            rw [← HR.out]; unfold idxI; rw [idx_of ⟨_, HX.out, rfl, rfl⟩ HE.out]
          clear HR
          subst hrj
          go_wp2
          go_ret
          exact ⟨rfl, rfl⟩
        · have h1 : (xs == s) = false := beq_eq_false_iff_ne.2 e1
          have HE2 := Sd.mk (show ∀ j, j < i + 1 → ¬ At l xc s j from fun j hj => by
            by_cases e : j = i
            · subst e; rintro ⟨y, hy, h3, h4⟩; rw [HX.out] at hy; cases hy; exact e1 h4
            · exact HE.out j (by omega))
          clear e1
          go_wp2
          go_round
          case rel => exact ⟨i + 1, by omega, by go_num, HE2⟩
          case measure => simp [intOf]; omega
      · have h0 : (xc == c) = false := beq_eq_false_iff_ne.2 e0
        have HE2 := Sd.mk (show ∀ j, j < i + 1 → ¬ At l c s j from fun j hj => by
            by_cases e : j = i
            · subst e; rintro ⟨y, hy, h3, h4⟩; rw [HX.out] at hy; cases hy; exact e0 h3
            · exact HE.out j (by omega))
        clear e0
        go_wp2
        go_round
        case rel => exact ⟨i + 1, by omega, by go_num, HE2⟩
        case measure => simp [intOf]; omega
    · have hii : decide (i < n) = false := decide_eq_false (by omega)
      obtain rfl : i = n := by omega
      have hrj : r = -1 := by
        rw [← HR.out]; unfold idxI
        rw [idx_none.2 (fun j hj => HE.out j (by have := at_lt hj; rw [HN.out]; exact this) hj)]
      clear HR
      subst hrj
      go_wp2
      go_ret
      exact ⟨rfl, rfl⟩
end Go.Proofs.Ytgleoeiiiadanaa.Led
