/- The reference's Twice and Once: walked. -/
import Derived.Test.YtnomgkmeomlccaaMkOf
import Derived.Laws.OwnMore
import Derived.BigRegion
set_option linter.unusedVariables false
set_option linter.unusedSimpArgs false

namespace Go.Proofs.Ytnomgkmeomlccaa.Blk
open Go.RowKit Go.Sort Rd Api Own Mv App Num Dig
open Del (Dl kp kp_none kp_yes kp_no kp_lt)

theorem step_appends_at {P : Program} {ops : Array Oper} {o : Oper} {a : Act} {Q : Exit → Act → World → Prop} {E : Prop} {K : Act → World → Prop} {α : Type} {d : Rk α} {f : α → List Value} {n : Nat} (hd : ∀ w x cs, d.K w x cs ↔ cs = f x) (hdn : d.sz = n) (hn : ∀ x, (f x).length = n) (h1 : ∀ x, ∀ u ∈ f x, u.oneCell' = true) {W : World} (hgd : o.guard = none) (s x : Operand) (t e : TypeId) (z : Value) (bytes : Nat)
    (ho : o.op = .call { callee := .builtin .append, args := #[s, x], argTypes := #[t, t] })
    (ht : P.underlying t = some (.slice e)) (hinfo : (P.info? e).map (fun i => (i.zero, i.size, i.bytes)) = some (some z, n, bytes)) (hz : z.cells.size = n) (hn0 : 0 < n)
    (v : Value) (xs ys : List α) (A : Option Addr) (m c : Nat) (hm : m = ys.length) (hs : a.eval s = v) (hx : a.eval x = .slice A m c) (hA : Row d W A ys) (hc : A = none → c = 0)
    (HO : OwnR f n W 0 e v xs) (hl : (xs.length + ys.length) * bytes ≤ 140737488355328) (hl2 : xs.length + ys.length ≤ 9223372036854775807)
    (h : ∀ v1 w1, OwnR f n w1 0 e v1 (xs ++ ys) → W.grownBy w1 v.ownBlock → (v1.ownBlock = v.ownBlock ∨ v1.ownBlock = some W.heap.size) → K (a.put o.dst v1) w1) :
    if Region.wanted o (yielded ops a.tmps) = true then Oper.wp P o a W K Q else E := by
  subst hm
  have hw : Region.wanted o (yielded ops a.tmps) = true := by simp [Region.wanted, hgd]
  rw [if_pos hw]
  obtain ⟨i0, hi, hzz⟩ := Option.map_eq_some_iff.1 hinfo
  simp only [Prod.mk.injEq] at hzz
  obtain ⟨hz0, hz1, hz2⟩ := hzz
  cases A with
  | none =>
    have hc0 := hc rfl
    subst hc0
    have hy : ys = [] := by
      cases ys with
      | nil => rfl
      | cons y r => obtain ⟨b, o, cs, hA, _⟩ := hA 0 y rfl; cases hA
    subst hy
    have hr := run_append_owned_none (P := P) (w := W) 0 t o.type e i0 n ht hi v xs.length (flat f xs) HO
    unfold Oper.wp execOp
    simp only [List.length_nil] at hx
    simp only [ho, resolve, invoke, builtin, Sem.run_bind, Sem.run_pure, Result.andThen_ok, List.map_toArray, List.map_cons, List.map_nil, hs, hx, hr]
    exact h v W (by simpa using HO) ⟨rfl, rfl, rfl, Nat.le_refl _, fun _ _ _ => rfl⟩ (.inl rfl)
  | some ad =>
    obtain ⟨v', w', hr, hown, hg, -, hb⟩ := run_append_own_at (P := P) W 0 t o.type e i0 z n bytes ht hi hz0 hz1 hz2 hz hn0 v xs.length (flat f xs) HO ad ys.length c (flat f ys) (flat_length hn ys)
      (fun j u hu => by
        have hj : j < (flat f ys).length := by
          rcases Nat.lt_or_ge j (flat f ys).length with h | h
          · exact h
          · rw [List.getElem?_eq_none h] at hu; cases hu
        rw [flat_length hn] at hj
        have hq : j / n < ys.length := Nat.div_lt_of_lt_mul (by rw [Nat.mul_comm]; exact hj)
        obtain ⟨b, o1, cs, hAd, hK, hcell⟩ := hA (j / n) ys[j / n] (List.getElem?_eq_getElem hq)
        have hr : j % n < (f ys[j / n]).length := by rw [hn]; exact Nat.mod_lt _ hn0
        have hg := flat_get hn ys (j / n) ys[j / n] (List.getElem?_eq_getElem hq) (j % n) _ (List.getElem?_eq_getElem hr)
        have hdm : j / n * n + j % n = j := by rw [Nat.mul_comm]; exact Nat.div_add_mod j n
        rw [hdm, hu] at hg
        cases Option.some.inj hAd
        have := hcell (j % n) u (by rw [(hd _ _ _).1 hK, List.getElem?_eq_getElem hr]; exact hg.symm)
        rw [hdn] at this
        rw [add_flat, show o1 + j = o1 + j / n * n + j % n by omega]
        exact this) (fun u hu => by
        obtain ⟨y, _, hy⟩ := List.mem_flatMap.1 hu
        exact h1 y u hy) (by unfold maxLen; omega) hl (by simp)
    unfold Oper.wp execOp
    simp only [ho, resolve, invoke, builtin, Sem.run_bind, Sem.run_pure, Result.andThen_ok, List.map_toArray, List.map_cons, List.map_nil, hs, hx, hr]
    exact h v' w' (by unfold OwnR; unfold flat at hown ⊢; rw [List.flatMap_append]; simpa using hown) hg hb
theorem own_nc {α : Type} {f : α → List Value} {n : Nat} {W : World} {base : Nat} {e : TypeId} {v : Value} {xs : List α} (h : OwnR f n W base e v xs) (A : Option Addr) (m c : Nat) (hv : v = .slice A m c) : A = none → c = 0 := by
  intro hA
  subst hA
  rcases h.2 with ⟨h1, _⟩ | ⟨g, cap, cur, h1, _⟩
  · rw [hv] at h1; simp at h1; exact h1.2
  · rw [hv] at h1; simp at h1
/-- are there two of one client and number? -/
def Dup (l : List Rq) : Prop := ∃ (i k : Nat) (x y : Rq), k < i ∧ l[i]? = some x ∧ l[k]? = some y ∧ rkey x = rkey y
set_option maxHeartbeats 4000000 in
set_option maxRecDepth 100000 in
theorem twice_any (w : World) (A : Option Addr) (c : Nat) (l : List Rq) (h : Sl rqN w A c l) (n : Nat) (hn : n = l.length) (r : Bool) (hr : r = true ↔ Dup l) :
    Calls Try.prog 59 #[.slice A n c] w fun e w' => e = .returned (.bool r) ∧ RowKit.Below w.heap.size w w' := by
  have HS := Sd.mk h
  have HN := Sd.mk hn
  have nc := Nat.le_trans h.le h.cap
  rw [← hn] at nc
  have HR := Sd.mk hr
  clear h hn hr
  go_enter Try.func59, Try.ntmps59
  go_wp2
  go_loopg [3, 4] n (fun gk v3 v4 wr => ∃ i, i + gk = n ∧ v3 = .int .i64 (i : Nat) ∧ Sd (∀ (i' k : Nat) (x y : Rq), i' < i → k < i' → l[i']? = some x → l[k]? = some y → rkey x ≠ rkey y) ∧ Sd (RowKit.Below w.heap.size w wr))
  case atStart => exact ⟨0, by omega, rfl, ⟨fun i' k x y h1 => by omega⟩, ⟨Below.refl _ _⟩⟩
  case round =>
    obtain ⟨i, hi, rfl, HA, HW⟩ := hrel
    by_cases hlt : i < n
    · have hii : (i : Int) < n := by omega
      obtain ⟨x, hx⟩ : ∃ x, l[i]? = some x := ⟨l[i]'(by rw [← HN.out]; exact hlt), List.getElem?_eq_getElem _⟩
      obtain ⟨b1, o1, rfl, p0, p1, p2⟩ := rq_at HS.out.row hx
      have HX := Sd.mk hx
      have HP := Sd.mk (And.intro p0 p1)
      clear hx p0 p1 p2
      obtain ⟨gko, hgo⟩ : ∃ z, gk = z := ⟨_, rfl⟩
      go_wp2
      go_loopg [4] i (fun gk v4 wr => ∃ k, k + gk = i ∧ v4 = .int .i64 (k : Nat) ∧ Sd (∀ (k' : Nat) (y : Rq), k' < k → l[k']? = some y → rkey x ≠ rkey y) ∧ Sd (RowKit.Below w.heap.size w wr))
      case atStart => exact ⟨0, by omega, rfl, ⟨fun k' y h => by omega⟩, HW⟩
      case round =>
        obtain ⟨k, hk, rfl, HA2, HW2⟩ := hrel
        by_cases hkt : k < i
        · have hki : (k : Int) < i := by omega
          have hkn : k < n := by omega
          have hkni : (k : Int) < n := by omega
          obtain ⟨y, hy⟩ : ∃ y, l[k]? = some y := ⟨l[k]'(by rw [← HN.out]; exact hkn), List.getElem?_eq_getElem _⟩
          obtain ⟨b2, o2, hbb, p0, p1, p2⟩ := rq_at HS.out.row hy
          simp only [Option.some.injEq, Addr.mk.injEq] at hbb
          obtain ⟨rfl, rfl, -⟩ := hbb
          have c0 := cell_below HW2.out HP.out.1
          have c1 := cell_below HW2.out HP.out.2
          have d0 := cell_below HW2.out p0
          have d1 := cell_below HW2.out p1
          have HY := Sd.mk hy
          clear hy p0 p1 p2
          obtain ⟨e1, he1⟩ : ∃ b, (x.c == y.c) = b := ⟨_, rfl⟩
          obtain ⟨e2, he2⟩ : ∃ b, (x.s == y.s) = b := ⟨_, rfl⟩
          have HK := Sd.mk (show rkey x = rkey y ↔ (e1 = true ∧ e2 = true) by rw [← he1, ← he2, beq_iff_eq, beq_iff_eq]; simp [rkey])
          cases e1 with
          | false =>
            go_upto_region 7 with (fail)
            go_quiet (fail)
            go_wp2
            go_roundg (gk - 1)
            case measure => omega
            case rel => exact ⟨k + 1, by omega, by go_num, ⟨fun k' z hk' hz => by rcases Nat.lt_or_ge k' k with e | e; exact HA2.out k' z e hz; rw [show k' = k by omega, HY.out] at hz; cases Option.some.inj hz; exact fun e => (by cases (HK.out.1 e).1)⟩, ⟨below_drewN HW2.out nq⟩⟩
          | true =>
            cases e2 with
            | false =>
              go_upto_region 7 with (fail)
              go_quiet (fail)
              go_wp2
              go_roundg (gk - 1)
              case measure => omega
              case rel => exact ⟨k + 1, by omega, by go_num, ⟨fun k' z hk' hz => by rcases Nat.lt_or_ge k' k with e | e; exact HA2.out k' z e hz; rw [show k' = k by omega, HY.out] at hz; cases Option.some.inj hz; exact fun e => (by cases (HK.out.1 e).2)⟩, ⟨below_drewN HW2.out nq⟩⟩
            | true =>
              obtain rfl : r = true := HR.out.2 ⟨i, k, x, y, hkt, HX.out, HY.out, HK.out.2 ⟨rfl, rfl⟩⟩
              go_upto_region 7 with (fail)
              go_quiet (fail)
              go_wp2
              go_ret
              exact ⟨rfl, below_drewN HW2.out nq⟩
        · have hki : decide (k < i) = false := decide_eq_false (by omega)
          have hki2 : decide ((k : Int) < (i : Int)) = false := decide_eq_false (by omega)
          obtain rfl : k = i := by omega
          have HA3 := Sd.mk (show ∀ (i' k' : Nat) (x y : Rq), i' < k + 1 → k' < i' → l[i']? = some x → l[k']? = some y → rkey x ≠ rkey y from fun i' k' x' y' h1 h2 h3 h4 => by
            rcases Nat.lt_or_ge i' k with e | e
            · exact HA.out i' k' x' y' e h2 h3 h4
            · rw [show i' = k by omega, HX.out] at h3
              cases Option.some.inj h3
              exact HA2.out k' y' (by omega) h4)
          go_wp2
          go_roundg (gko - 1)
          case measure => omega
          case rel => exact ⟨k + 1, by omega, by go_num, HA3, HW2⟩
    · have hii : decide (i < n) = false := decide_eq_false (by omega)
      have hii2 : decide ((i : Int) < (n : Int)) = false := decide_eq_false (by omega)
      obtain rfl : r = false := by
        cases r with
        | false => rfl
        | true =>
          obtain ⟨i', k, x, y, h1, h2, h3, h4⟩ := HR.out.1 rfl
          have := (List.getElem?_eq_some_iff.1 h2).1
          exact absurd h4 (HA.out i' k x y (by rw [← HN.out] at this; omega) h1 h2 h3)
      go_wp2
      go_ret
      exact ⟨rfl, HW.out⟩
end Go.Proofs.Ytnomgkmeomlccaa.Blk
