/- The reference's Twice and Once: walked. The reference's Once: walked. count.Leader; block.Make: walked. -/
import Derived.Test.YtnomgkmeomlccaaMkOd
import Derived.Laws.OwnMore
import Derived.BigRegion
import Derived.Test.YtnomgkmeomlccaaBlkW
set_option linter.unusedVariables false
set_option linter.unusedSimpArgs false

namespace Go.Proofs.Ytnomgkmeomlccaa.Blk
open Go.RowKit Go.Sort Rd Api Own Mv App Num Dig
open Del (Dl kp kp_none kp_yes kp_no kp_lt)

theorem step_appends_at {P : Program} {ops : Array Oper} {o : Oper} {a : Act} {Q : Exit → Act → World → Prop} {E : Prop} {K : Act → World → Prop} {α : Type} {d : Rk α} {f : α → List Value} {n : Nat} (hd : ∀ w x cs, d.K w x cs ↔ cs = f x) (hdn : d.sz = n) (hn : ∀ x, (f x).length = n) (h1 : ∀ x, ∀ u ∈ f x, u.oneCell' = true) {W : World} (hgd : o.guard = none) (s x : Operand) (t e : TypeId) (z : Value) (bytes : Nat)
    (ho : o.op = .call { callee := .builtin .append, args := #[s, x], argTypes := #[t, t] })
    (ht : P.underlying t = some (.slice e)) (hinfo : (P.info? e).map (fun i => (i.zero, i.size, i.bytes)) = some (some z, n, bytes)) (hz : z.cells.size = n) (hn0 : 0 < n)
    (v : Value) (xs ys : List α) (A : Option Addr) (m c : Nat) (hm : m = ys.length) (hs : a.eval s = v) (hx : a.eval x = .slice A m c) (hA : Row d W A ys) (hc : A = none → c = 0)
    (HO : OwnR f n W 0 e v xs) (hl : (xs.length + ys.length) * bytes ≤ 140737488355328) (hl2 : xs.length + ys.length ≤ 9223372036854775807)
    (h : ∀ v1 w1, OwnR f n w1 0 e v1 (xs ++ ys) → W.grownBy w1 v.ownBlock → (v1.ownBlock = v.ownBlock ∨ v1.ownBlock = some W.heap.size) → K (a.put o.dst v1) w1) :
    if Region.wanted o (yielded ops a.tmps) = true then Oper.wp P o a W K Q else E := by
  subst hm
  have hw : Region.wanted o (yielded ops a.tmps) = true := by simp [Region.wanted, hgd]
  rw [if_pos hw]
  obtain ⟨i0, hi, hzz⟩ := Option.map_eq_some_iff.1 hinfo
  simp only [Prod.mk.injEq] at hzz
  obtain ⟨hz0, hz1, hz2⟩ := hzz
  cases A with
  | none =>
    have hc0 := hc rfl
    subst hc0
    have hy : ys = [] := by
      cases ys with
      | nil => rfl
      | cons y r => obtain ⟨b, o, cs, hA, _⟩ := hA 0 y rfl; cases hA
    subst hy
    have hr := run_append_owned_none (P := P) (w := W) 0 t o.type e i0 n ht hi v xs.length (flat f xs) HO
    unfold Oper.wp execOp
    simp only [List.length_nil] at hx
    simp only [ho, resolve, invoke, builtin, Sem.run_bind, Sem.run_pure, Result.andThen_ok, List.map_toArray, List.map_cons, List.map_nil, hs, hx, hr]
    exact h v W (by simpa using HO) ⟨rfl, rfl, rfl, Nat.le_refl _, fun _ _ _ => rfl⟩ (.inl rfl)
  | some ad =>
    obtain ⟨v', w', hr, hown, hg, -, hb⟩ := run_append_own_at (P := P) W 0 t o.type e i0 z n bytes ht hi hz0 hz1 hz2 hz hn0 v xs.length (flat f xs) HO ad ys.length c (flat f ys) (flat_length hn ys)
      (fun j u hu => by
        have hj : j < (flat f ys).length := by
          rcases Nat.lt_or_ge j (flat f ys).length with h | h
          · exact h
          · rw [List.getElem?_eq_none h] at hu; cases hu
        rw [flat_length hn] at hj
        have hq : j / n < ys.length := Nat.div_lt_of_lt_mul (by rw [Nat.mul_comm]; exact hj)
        obtain ⟨b, o1, cs, hAd, hK, hcell⟩ := hA (j / n) ys[j / n] (List.getElem?_eq_getElem hq)
        have hr : j % n < (f ys[j / n]).length := by rw [hn]; exact Nat.mod_lt _ hn0
        have hg := flat_get hn ys (j / n) ys[j / n] (List.getElem?_eq_getElem hq) (j % n) _ (List.getElem?_eq_getElem hr)
        have hdm : j / n * n + j % n = j := by rw [Nat.mul_comm]; exact Nat.div_add_mod j n
        rw [hdm, hu] at hg
        cases Option.some.inj hAd
        have := hcell (j % n) u (by rw [(hd _ _ _).1 hK, List.getElem?_eq_getElem hr]; exact hg.symm)
        rw [hdn] at this
        rw [add_flat, show o1 + j = o1 + j / n * n + j % n by omega]
        exact this) (fun u hu => by
        obtain ⟨y, _, hy⟩ := List.mem_flatMap.1 hu
        exact h1 y u hy) (by unfold maxLen; omega) hl (by simp)
    unfold Oper.wp execOp
    simp only [ho, resolve, invoke, builtin, Sem.run_bind, Sem.run_pure, Result.andThen_ok, List.map_toArray, List.map_cons, List.map_nil, hs, hx, hr]
    exact h v' w' (by unfold OwnR; unfold flat at hown ⊢; rw [List.flatMap_append]; simpa using hown) hg hb
theorem own_nc {α : Type} {f : α → List Value} {n : Nat} {W : World} {base : Nat} {e : TypeId} {v : Value} {xs : List α} (h : OwnR f n W base e v xs) (A : Option Addr) (m c : Nat) (hv : v = .slice A m c) : A = none → c = 0 := by
  intro hA
  subst hA
  rcases h.2 with ⟨h1, _⟩ | ⟨g, cap, cur, h1, _⟩
  · rw [hv] at h1; simp at h1; exact h1.2
  · rw [hv] at h1; simp at h1
/-- are there two of one client and number? -/
def Dup (l : List Rq) : Prop := ∃ (i k : Nat) (x y : Rq), k < i ∧ l[i]? = some x ∧ l[k]? = some y ∧ rkey x = rkey y
set_option maxHeartbeats 4000000 in
set_option maxRecDepth 100000 in
theorem twice_any (w : World) (A : Option Addr) (c : Nat) (l : List Rq) (h : Sl rqN w A c l) (n : Nat) (hn : n = l.length) (r : Bool) (hr : r = true ↔ Dup l) :
    Calls Try.prog 59 #[.slice A n c] w fun e w' => e = .returned (.bool r) ∧ RowKit.Below w.heap.size w w' := by
  have HS := Sd.mk h
  have HN := Sd.mk hn
  have nc := Nat.le_trans h.le h.cap
  rw [← hn] at nc
  have HR := Sd.mk hr
  clear h hn hr
  go_enter Try.func59, Try.ntmps59
  go_wp2
  go_loopg [3, 4] n (fun gk v3 v4 wr => ∃ i, i + gk = n ∧ v3 = .int .i64 (i : Nat) ∧ Sd (∀ (i' k : Nat) (x y : Rq), i' < i → k < i' → l[i']? = some x → l[k]? = some y → rkey x ≠ rkey y) ∧ Sd (RowKit.Below w.heap.size w wr))
  case atStart => exact ⟨0, by omega, rfl, ⟨fun i' k x y h1 => by omega⟩, ⟨Below.refl _ _⟩⟩
  case round =>
    obtain ⟨i, hi, rfl, HA, HW⟩ := hrel
    by_cases hlt : i < n
    · have hii : (i : Int) < n := by omega
      obtain ⟨x, hx⟩ : ∃ x, l[i]? = some x := ⟨l[i]'(by rw [← HN.out]; exact hlt), List.getElem?_eq_getElem _⟩
      obtain ⟨b1, o1, rfl, p0, p1, p2⟩ := rq_at HS.out.row hx
      have HX := Sd.mk hx
      have HP := Sd.mk (And.intro p0 p1)
      clear hx p0 p1 p2
      obtain ⟨gko, hgo⟩ : ∃ z, gk = z := ⟨_, rfl⟩
      go_wp2
      go_loopg [4] i (fun gk v4 wr => ∃ k, k + gk = i ∧ v4 = .int .i64 (k : Nat) ∧ Sd (∀ (k' : Nat) (y : Rq), k' < k → l[k']? = some y → rkey x ≠ rkey y) ∧ Sd (RowKit.Below w.heap.size w wr))
      case atStart => exact ⟨0, by omega, rfl, ⟨fun k' y h => by omega⟩, HW⟩
      case round =>
        obtain ⟨k, hk, rfl, HA2, HW2⟩ := hrel
        by_cases hkt : k < i
        · have hki : (k : Int) < i := by omega
          have hkn : k < n := by omega
          have hkni : (k : Int) < n := by omega
          obtain ⟨y, hy⟩ : ∃ y, l[k]? = some y := ⟨l[k]'(by rw [← HN.out]; exact hkn), List.getElem?_eq_getElem _⟩
          obtain ⟨b2, o2, hbb, p0, p1, p2⟩ := rq_at HS.out.row hy
          simp only [Option.some.injEq, Addr.mk.injEq] at hbb
          obtain ⟨rfl, rfl, -⟩ := hbb
          have c0 := cell_below HW2.out HP.out.1
          have c1 := cell_below HW2.out HP.out.2
          have d0 := cell_below HW2.out p0
          have d1 := cell_below HW2.out p1
          have HY := Sd.mk hy
          clear hy p0 p1 p2
          obtain ⟨e1, he1⟩ : ∃ b, (x.c == y.c) = b := ⟨_, rfl⟩
          obtain ⟨e2, he2⟩ : ∃ b, (x.s == y.s) = b := ⟨_, rfl⟩
          have HK := Sd.mk (show rkey x = rkey y ↔ (e1 = true ∧ e2 = true) by rw [← he1, ← he2, beq_iff_eq, beq_iff_eq]; simp [rkey])
          cases e1 with
          | false =>
            go_upto_region 7 with (fail)
            go_quiet (fail)
            go_wp2
            go_roundg (gk - 1)
            case measure => omega
            case rel => exact ⟨k + 1, by omega, by go_num, ⟨fun k' z hk' hz => by rcases Nat.lt_or_ge k' k with e | e; exact HA2.out k' z e hz; rw [show k' = k by omega, HY.out] at hz; cases Option.some.inj hz; exact fun e => (by cases (HK.out.1 e).1)⟩, ⟨below_drewN HW2.out nq⟩⟩
          | true =>
            cases e2 with
            | false =>
              go_upto_region 7 with (fail)
              go_quiet (fail)
              go_wp2
              go_roundg (gk - 1)
              case measure => omega
              case rel => exact ⟨k + 1, by omega, by go_num, ⟨fun k' z hk' hz => by rcases Nat.lt_or_ge k' k with e | e; exact HA2.out k' z e hz; rw [show k' = k by omega, HY.out] at hz; cases Option.some.inj hz; exact fun e => (by cases (HK.out.1 e).2)⟩, ⟨below_drewN HW2.out nq⟩⟩
            | true =>
              obtain rfl : r = true := HR.out.2 ⟨i, k, x, y, hkt, HX.out, HY.out, HK.out.2 ⟨rfl, rfl⟩⟩
              go_upto_region 7 with (fail)
              go_quiet (fail)
              go_wp2
              go_ret
              exact ⟨rfl, below_drewN HW2.out nq⟩
        · have hki : decide (k < i) = false := decide_eq_false (by omega)
          have hki2 : decide ((k : Int) < (i : Int)) = false := decide_eq_false (by omega)
          obtain rfl : k = i := by omega
          have HA3 := Sd.mk (show ∀ (i' k' : Nat) (x y : Rq), i' < k + 1 → k' < i' → l[i']? = some x → l[k']? = some y → rkey x ≠ rkey y from fun i' k' x' y' h1 h2 h3 h4 => by
            rcases Nat.lt_or_ge i' k with e | e
            · exact HA.out i' k' x' y' e h2 h3 h4
            · rw [show i' = k by omega, HX.out] at h3
              cases Option.some.inj h3
              exact HA2.out k' y' (by omega) h4)
          go_wp2
          go_roundg (gko - 1)
          case measure => omega
          case rel => exact ⟨k + 1, by omega, by go_num, HA3, HW2⟩
    · have hii : decide (i < n) = false := decide_eq_false (by omega)
      have hii2 : decide ((i : Int) < (n : Int)) = false := decide_eq_false (by omega)
      obtain rfl : r = false := by
        cases r with
        | false => rfl
        | true =>
          obtain ⟨i', k, x, y, h1, h2, h3, h4⟩ := HR.out.1 rfl
          have := (List.getElem?_eq_some_iff.1 h2).1
          exact absurd h4 (HA.out i' k x y (by rw [← HN.out] at this; omega) h1 h2 h3)
      go_wp2
      go_ret
      exact ⟨rfl, HW.out⟩
end Go.Proofs.Ytnomgkmeomlccaa.Blk
set_option linter.unusedVariables false
set_option linter.unusedSimpArgs false

namespace Go.Proofs.Ytnomgkmeomlccaa.Blk
open Go.RowKit Go.Sort Rd Api Own Mv App Num Dig
open Del (kp kp_none kp_yes kp_no kp_lt)

def fi (l : List Rq) (i : Nat) : List Rq := kp (seen l) l i
theorem fi_yes {l : List Rq} {i : Nat} (h : seen l i = true) : fi l (i + 1) = fi l i := kp_yes h
theorem fi_no {l : List Rq} {i : Nat} {x : Rq} (h : seen l i = false) (hx : l[i]? = some x) : fi l (i + 1) = fi l i ++ [x] := kp_no h hx
theorem fi_mem {l : List Rq} : ∀ {i : Nat}, i ≤ l.length → ∀ p, p ∈ (fi l i).map rkey ↔ p ∈ (l.take i).map rkey
  | 0, _, p => by simp [fi, kp]
  | i + 1, hi, p => by
    obtain ⟨x, hx⟩ : ∃ x, l[i]? = some x := ⟨l[i]'(by omega), List.getElem?_eq_getElem _⟩
    have ih := fi_mem (l := l) (i := i) (by omega) p
    rw [List.take_add_one, hx, List.map_append, List.mem_append]
    cases h : seen l i with
    | true =>
      rw [fi_yes h, ih]
      rw [seen_at hx, decide_eq_true_iff] at h
      refine ⟨.inl, fun e => ?_⟩
      rcases e with e | e
      · exact e
      · simp at e; subst e; exact h
    | false =>
      rw [fi_no h hx, List.map_append, List.mem_append, ih]
      rfl
theorem dup_snoc {l : List Rq} {x : Rq} : Dup (l ++ [x]) ↔ Dup l ∨ rkey x ∈ l.map rkey := by
  constructor
  · rintro ⟨i, k, a, b, h1, h2, h3, h4⟩
    have hi := (List.getElem?_eq_some_iff.1 h2).1
    rw [List.length_append] at hi
    simp at hi
    have hk : k < l.length := by omega
    rw [List.getElem?_append_left hk] at h3
    rcases Nat.lt_or_ge i l.length with e | e
    · rw [List.getElem?_append_left e] at h2
      exact .inl ⟨i, k, a, b, h1, h2, h3, h4⟩
    · obtain rfl : i = l.length := by omega
      rw [List.getElem?_append_right (Nat.le_refl _)] at h2
      simp at h2
      subst h2
      exact .inr (by rw [h4]; exact List.mem_map.2 ⟨b, List.mem_of_getElem? h3, rfl⟩)
  · rintro (⟨i, k, a, b, h1, h2, h3, h4⟩ | h)
    · have hi := (List.getElem?_eq_some_iff.1 h2).1
      exact ⟨i, k, a, b, h1, by rw [List.getElem?_append_left hi]; exact h2, by rw [List.getElem?_append_left (by omega)]; exact h3, h4⟩
    · obtain ⟨b, hb, hbe⟩ := List.mem_map.1 h
      obtain ⟨k, hk⟩ := List.getElem?_of_mem hb
      have hkl := (List.getElem?_eq_some_iff.1 hk).1
      exact ⟨l.length, k, x, b, hkl, by simp, by rw [List.getElem?_append_left hkl]; exact hk, hbe.symm⟩
theorem fi_nodup {l : List Rq} : ∀ {i : Nat}, i ≤ l.length → ¬ Dup (fi l i)
  | 0, _ => by rintro ⟨i, k, a, b, h1, h2, -⟩; simp [fi, kp] at h2
  | i + 1, hi => by
    obtain ⟨x, hx⟩ : ∃ x, l[i]? = some x := ⟨l[i]'(by omega), List.getElem?_eq_getElem _⟩
    have ih := fi_nodup (l := l) (i := i) (by omega)
    cases h : seen l i with
    | true => rw [fi_yes h]; exact ih
    | false =>
      rw [fi_no h hx, dup_snoc, fi_mem (by omega)]
      rw [seen_at hx, decide_eq_false_iff_not] at h
      rintro (e | e)
      · exact ih e
      · exact h e
theorem fi_twice {l : List Rq} {i : Nat} {x : Rq} (hx : l[i]? = some x) : seen l i = true ↔ Dup (fi l i ++ [x]) := by
  have hi := (List.getElem?_eq_some_iff.1 hx).1
  rw [dup_snoc, fi_mem (by omega), seen_at hx, decide_eq_true_iff]
  exact ⟨.inr, fun e => e.resolve_left (fi_nodup (by omega))⟩
theorem fi_pre {l : List Rq} : ∀ (j i : Nat), i + j ≤ l.length → (fi l (i + j)).take (fi l i).length = fi l i
  | 0, i, _ => List.take_of_length_le (Nat.le_refl _)
  | j + 1, i, hi => by
    obtain ⟨x, hx⟩ : ∃ x, l[i + j]? = some x := ⟨l[i + j]'(by omega), List.getElem?_eq_getElem _⟩
    have ih := fi_pre (l := l) j i (by omega)
    rw [show i + (j + 1) = (i + j) + 1 by omega]
    cases h : seen l (i + j) with
    | true => rw [fi_yes h]; exact ih
    | false =>
      rw [fi_no h hx]
      have hle : (fi l i).length ≤ (fi l (i + j)).length := by
        have := congrArg List.length ih
        rw [List.length_take] at this
        omega
      rw [List.take_append_of_le_length hle]
      exact ih
theorem fi_end {l : List Rq} {i : Nat} (hi : i ≤ l.length) (h : i = l.length ∧ (fi l i).length ≤ 3 ∨ (fi l i).length = 3) : (firsts l).take 3 = fi l i := by
  rcases h with ⟨rfl, h⟩ | h
  · exact List.take_of_length_le h
  · have := fi_pre (l := l) (l.length - i) i (by omega)
    rw [h, show i + (l.length - i) = l.length by omega] at this
    exact this
theorem row_rq1 {W : World} {b : Nat} {x : Rq} (h : W.heap[b]? = some (.cells #[.int .i64 x.c, .int .i64 x.s, .string x.b] 47 (0, 0))) : Row rqN W (some ⟨b, 0, none⟩) [x] := by
  intro i y hy
  match i, hy with
  | 0, hy =>
    cases Option.some.inj hy
    exact ⟨b, 0, _, rfl, rfl, fun j u hu => by rw [show 0 + 0 * rqN.sz + j = j by omega]; exact blk_at h j u (by simpa [fR] using hu)⟩
  | i + 1, hy => simp at hy
theorem own_rq {W : World} {base : Nat} {v : Value} {l : List Rq} (h : OwnR fR 3 W base 47 v l) : ∃ A c, v = .slice A l.length c ∧ Sl rqN W A c l := OwnR.reads (d := rqN) (f := fR) (n := 3) (fun _ _ => rfl) (fun _ => rfl) rfl h
set_option maxHeartbeats 16000000 in
set_option maxRecDepth 100000 in
theorem refonce_any (w : World) (A : Option Addr) (c : Nat) (l : List Rq) (h : Sl rqN w A c l) (hlen : l.length ≤ 1000) (n : Nat) (hn : n = l.length) :
    Calls Try.prog 22 #[.slice A n c] w fun e w' => ∃ v, e = .returned v ∧ Ro w v ((firsts l).take 3) w' := by
  have mixed : Try.prog.follows .mixedOrders = true := by kernel_rfl
  have HS := Sd.mk h
  have HN := Sd.mk hn
  have nc := Nat.le_trans h.le h.cap
  rw [← hn] at nc hlen
  clear h hn
  go_enter Try.func22, Try.ntmps22
  go_wp2
  go_loopg [3, 4] n (fun gk v3 v4 wr => ∃ (i : Nat) (B : Option Addr) (k d : Nat), i + gk = n ∧ k ≤ 3 ∧ v3 = .slice B k d ∧ v4 = .int .i64 (i : Nat) ∧ Sd ((fi l i).length = k) ∧ Sd (Ro w (.slice B k d) (fi l i) wr))
  case atStart => exact ⟨0, none, 0, 0, by omega, by omega, rfl, rfl, ⟨rfl⟩, ⟨⟨OwnR.nil _ _ _ _ _, fun k hk => (by simp [Value.ownBlock] at hk), Below.refl _ _⟩⟩⟩
  case round =>
    obtain ⟨i, B, k, d, hi, hk3, rfl, rfl, HK, HO⟩ := hrel
    by_cases hlt : i < n
    · have hii : (i : Int) < n := by omega
      by_cases hkt : k < 3
      · have hki : (k : Int) < 3 := by omega
        obtain ⟨x, hx⟩ : ∃ x, l[i]? = some x := ⟨l[i]'(by rw [← HN.out]; exact hlt), List.getElem?_eq_getElem _⟩
        obtain ⟨b1, o1, rfl, p0, p1, p2⟩ := rq_at HS.out.row hx
        obtain ⟨r, hr⟩ : ∃ r, seen l i = r := ⟨_, rfl⟩
        have HFY := Sd.mk (show r = true → fi l (i + 1) = fi l i from fun e => fi_yes (hr.trans e))
        have HFN := Sd.mk (show r = false → fi l (i + 1) = fi l i ++ [x] from fun e => fi_no (hr.trans e) hx)
        have HTW0 := Sd.mk (show r = true ↔ Dup (fi l i ++ [x]) by rw [← hr]; exact fi_twice hx)
        have HP := Sd.mk (And.intro p0 (And.intro p1 p2))
        have HKL := Sd.mk HK.out.symm
        obtain ⟨out, hout⟩ : ∃ out, fi l i = out := ⟨_, rfl⟩
        rw [hout] at HFY HFN HTW0 HKL HO
        have hnc := own_nc HO.out.own B _ d rfl
        have HNC := Sd.mk hnc
        obtain ⟨B', d', hBB, hsl⟩ := own_rq HO.out.own
        rw [← HKL.out] at hBB
        simp only [Value.slice.injEq] at hBB
        obtain ⟨rfl, -, rfl⟩ := hBB
        have hkd := hsl.le
        have hdc := hsl.cap
        rw [← HKL.out] at hkd
        have HSL := Sd.mk hsl
        clear hx hr p0 p1 p2 hout hnc hsl
        go_upto_region 5 with (fail)
        have HRO := Sd.mk (HO.out.below (below_drew' (Below.refl _ _)))
        have HRW := Sd.mk (HSL.out.row.below (below_drew' (Below.refl _ _)))
        have HCE := Sd.mk (fun W (hb : RowKit.Below wr.drew.heap.size wr.drew W) => show W.cell? ⟨b1, o1 + i * 3, none⟩ = some (.int .i64 x.c) ∧ W.cell? ⟨b1, o1 + i * 3 + 1, none⟩ = some (.int .i64 x.s) ∧ W.cell? ⟨b1, o1 + i * 3 + 2, none⟩ = some (.string x.b) from
          ⟨cell_below (below_then HRO.out.bel hb) HP.out.1, cell_below (below_then HRO.out.bel hb) HP.out.2.1, cell_below (below_then HRO.out.bel hb) HP.out.2.2⟩)
        have HTC := Sd.mk (fun W (v : Value) (ho : OwnR fR 3 W 0 47 v (out ++ [x])) (A' : Option Addr) (m' c' : Nat) (hv : v = .slice A' m' c') => show Calls Try.prog 59 #[.slice A' m' c'] W fun e w' => e = .returned (.bool r) ∧ RowKit.Below W.heap.size W w' from by
          obtain ⟨A2, c2, hv2, hs2⟩ := own_rq ho
          rw [hv] at hv2
          simp only [Value.slice.injEq] at hv2
          obtain ⟨rfl, rfl, rfl⟩ := hv2
          exact twice_any W A' c' (out ++ [x]) hs2 _ rfl r HTW0.out)
        have S0 := HCE.out _ (Below.refl _ _)
        refine Peel.region_peel (n := 10) (S := fun W => W.cell? ⟨b1, o1 + i * 3, none⟩ = some (.int .i64 x.c) ∧ W.cell? ⟨b1, o1 + i * 3 + 1, none⟩ = some (.int .i64 x.s) ∧ W.cell? ⟨b1, o1 + i * 3 + 2, none⟩ = some (.string x.b)) (by kernel_rfl) (by kernel_rfl) S0 (fun hHeld => ?_)
        simp only [List.take_succ_cons, List.take_zero]
        clear HO HSL S0
        generalize wr.drew = W5 at HRO HRW HCE hHeld ⊢
        (refine Peel.take 1 (v := ?_) rfl rfl (by kernel_rfl) (by kernel_rfl) (by kernel_rfl) (fun _ _ _ h => h) (by assumption) ?_ ?_; rotate_left; (focus (intro w hSw; obtain ⟨s0, s1, s2⟩ := hSw; (try dsimp only at s0 s1 s2); (try simp only [List.getElem_toArray, List.getElem_cons_succ, List.getElem_cons_zero]); go_simp; try (with_reducible rfl))); try simp only [List.getElem_toArray, List.getElem_cons_succ, List.getElem_cons_zero, Act.put, List.setIfInBounds_toArray, List.set_cons_zero, List.set_cons_succ])
        (refine Peel.take 3 (v := ?_) rfl rfl (by kernel_rfl) (by kernel_rfl) (by kernel_rfl) (fun _ _ _ h => h) (by assumption) ?_ ?_; rotate_left; (focus (intro w hSw; obtain ⟨s0, s1, s2⟩ := hSw; (try dsimp only at s0 s1 s2); (try simp only [List.getElem_toArray, List.getElem_cons_succ, List.getElem_cons_zero]); go_simp; try (with_reducible rfl))); try simp only [List.getElem_toArray, List.getElem_cons_succ, List.getElem_cons_zero, Act.put, List.setIfInBounds_toArray, List.set_cons_zero, List.set_cons_succ])
        (refine Peel.take 4 (v := ?_) rfl rfl (by kernel_rfl) (by kernel_rfl) (by kernel_rfl) (fun _ _ _ h => h) (by assumption) ?_ ?_; rotate_left; (focus (intro w hSw; obtain ⟨s0, s1, s2⟩ := hSw; (try dsimp only at s0 s1 s2); (try simp only [List.getElem_toArray, List.getElem_cons_succ, List.getElem_cons_zero]); go_simp; try (with_reducible rfl))); try simp only [List.getElem_toArray, List.getElem_cons_succ, List.getElem_cons_zero, Act.put, List.setIfInBounds_toArray, List.set_cons_zero, List.set_cons_succ])
        (refine Peel.take 5 (v := ?_) rfl rfl (by kernel_rfl) (by kernel_rfl) (by kernel_rfl) (fun _ _ _ h => h) (by assumption) ?_ ?_; rotate_left; (focus (intro w hSw; obtain ⟨s0, s1, s2⟩ := hSw; (try dsimp only at s0 s1 s2); (try simp only [List.getElem_toArray, List.getElem_cons_succ, List.getElem_cons_zero]); go_simp; try (with_reducible rfl))); try simp only [List.getElem_toArray, List.getElem_cons_succ, List.getElem_cons_zero, Act.put, List.setIfInBounds_toArray, List.set_cons_zero, List.set_cons_succ])
        (refine Peel.take 6 (v := ?_) rfl rfl (by kernel_rfl) (by kernel_rfl) (by kernel_rfl) (fun _ _ _ h => h) (by assumption) ?_ ?_; rotate_left; (focus (intro w hSw; obtain ⟨s0, s1, s2⟩ := hSw; (try dsimp only at s0 s1 s2); (try simp only [List.getElem_toArray, List.getElem_cons_succ, List.getElem_cons_zero]); go_simp; try (with_reducible rfl))); try simp only [List.getElem_toArray, List.getElem_cons_succ, List.getElem_cons_zero, Act.put, List.setIfInBounds_toArray, List.set_cons_zero, List.set_cons_succ])
        refine wpAnyH_ready (rs := [0, 7]) (by kernel_rfl) (by simp) ?_
        refine AllReadyH.cons rfl (fun K hK => ?_) (AllReadyH.cons rfl (fun K hK => ?_) AllReadyH.nil)
        · go_simp
          have HBA := Sd.mk (below_one W5 (.cells #[] 47))
          have s6 := HCE.out _ HBA.out
          (refine hK.out _ _ s6 (fun hHeld => ?_); (clear hK K; try simp only [List.getElem_toArray, List.getElem_cons_succ, List.getElem_cons_zero, Act.put, List.setIfInBounds_toArray, List.set_cons_zero, List.set_cons_succ]))
          clear s6
          have HE0 := Sd.mk (own_emptyR W5 47)
          refine wpAnyH_ready (rs := [2, 7]) (by kernel_rfl) (by simp) ?_
          refine AllReadyH.cons rfl (fun K hK => ?_) (AllReadyH.cons rfl (fun K hK => ?_) AllReadyH.nil)
          · (refine step_appends_at (d := rqN) (f := fR) (n := 3) (fun _ _ _ => Iff.rfl) rfl (fun _ => rfl) fR_one rfl (.tmp 16) (.tmp 17) 33 47 (.agg #[.int .i64 0, .int .i64 0, .string ByteArray.empty]) 32 rfl Try.underlying33 info_rq rfl (by decide) (.slice (some ⟨_, 0, none⟩) 0 0) [] out B k d HKL.out rfl rfl (HRW.out.below HBA.out) HNC.out HE0.out (by have := HKL.out; simp only [List.length_nil]; omega) (by have := HKL.out; simp only [List.length_nil]; omega) ?_; intro v1 w1 hown hg hob; rw [List.nil_append] at hown; obtain ⟨A6, q6, rfl⟩ := OwnR.slice hown; rw [← HKL.out] at hown hob ⊢; have HO1 := Sd.mk hown; have HGX := Sd.mk hg; have HB1 := Sd.mk (below_grown HBA.out hg HBA.out.size (fun j e => by simp [Value.ownBlock] at e; omega)); have HQ1 := Sd.mk (show ∀ j, (Value.slice A6 k q6).ownBlock = some j → W5.heap.size ≤ j from fun j hj => by (have := HBA.out.size; rcases hob with e2 | e2; (rw [hj] at e2; simp [Value.ownBlock] at e2; omega); (rw [hj] at e2; simp at e2; omega))); clear hown hg hob)
            have s6 := HCE.out _ HB1.out
            (refine hK.out _ _ s6 (fun hHeld => ?_); (clear hK K; try simp only [List.getElem_toArray, List.getElem_cons_succ, List.getElem_cons_zero, Act.put, List.setIfInBounds_toArray, List.set_cons_zero, List.set_cons_succ]))
            clear s6
            (refine wpAnyH_ready (rs := [7]) (by kernel_rfl) (by simp) ?_; refine AllReadyH.cons rfl (fun K hK => ?_) AllReadyH.nil)
            go_simp
            have HB2 := Sd.mk (below_then HB1.out (below_one w1 (.cells #[.int .i64 x.c, .int .i64 x.s, .string x.b] 47)))
            have HO2 := Sd.mk (HO1.out.below (below_one w1 (.cells #[.int .i64 x.c, .int .i64 x.s, .string x.b] 47)))
            have HY1 := Sd.mk (row_rq1 (blk_new w1 (.cells #[.int .i64 x.c, .int .i64 x.s, .string x.b] 47)))
            have s6 := HCE.out _ HB2.out
            (refine hK.out _ _ s6 (fun hHeld => ?_); (clear hK K; try simp only [List.getElem_toArray, List.getElem_cons_succ, List.getElem_cons_zero, Act.put, List.setIfInBounds_toArray, List.set_cons_zero, List.set_cons_succ]))
            clear s6
            (refine wpAnyH_ready (rs := [8]) (by kernel_rfl) (by simp) ?_; refine AllReadyH.cons rfl (fun K hK => ?_) AllReadyH.nil)
            (refine step_appends_at (d := rqN) (f := fR) (n := 3) (fun _ _ _ => Iff.rfl) rfl (fun _ => rfl) fR_one rfl (.tmp 18) (.tmp 23) 33 47 (.agg #[.int .i64 0, .int .i64 0, .string ByteArray.empty]) 32 rfl Try.underlying33 info_rq rfl (by decide) (.slice A6 k q6) out [x] _ 1 1 rfl rfl rfl HY1.out (fun e => by cases e) HO2.out (by have := HKL.out; simp only [List.length_cons, List.length_nil]; omega) (by have := HKL.out; simp only [List.length_cons, List.length_nil]; omega) ?_; intro v2 w2 hown hg hob; have HB7 := Sd.mk (below_grown HB2.out hg HB2.out.size (fun j e => HQ1.out j e)); have HTW := Sd.mk (HTC.out w2 v2 hown); obtain ⟨A7, q7, rfl⟩ := OwnR.slice hown; have hl7 : (out ++ [x]).length = k + 1 := (by rw [List.length_append, ← HKL.out]; rfl); rw [hl7] at hob HTW ⊢; clear hown hg hob hl7; have s7 := HCE.out _ HB7.out; (refine hK.out _ _ s7 (fun hHeld => ?_); (clear hK K; try simp only [List.getElem_toArray, List.getElem_cons_succ, List.getElem_cons_zero, Act.put, List.setIfInBounds_toArray, List.set_cons_zero, List.set_cons_succ])))
            (refine wpAnyH_ready (rs := [9]) (by kernel_rfl) (by simp) ?_; refine AllReadyH.cons rfl (fun K hK => ?_) AllReadyH.nil; go_simp; go_at_call 59; refine (HTW.out A7 (k + 1) q7 rfl).mono ?_; rintro e w8 ⟨rfl, hb8⟩; have HB8 := Sd.mk (below_then HB7.out hb8); clear hb8; have s8 := HCE.out _ HB8.out; (refine hK.out _ _ s8 (fun hHeld => ?_); (clear hK K; try simp only [List.getElem_toArray, List.getElem_cons_succ, List.getElem_cons_zero, Act.put, List.setIfInBounds_toArray, List.set_cons_zero, List.set_cons_succ])))
            (refine wpAnyH_done (by kernel_rfl) ?_ _; simp only [Peel.Qn, List.drop_succ_cons, List.drop_zero]; clear hHeld)
            have HRO8 := Sd.mk (HRO.out.below HB8.out)
            obtain ⟨t0, t1, t2⟩ := s8
            clear HRO HRW HCE HTC HBA HB1 HB2 HB7 HB8 HO1 HO2 HY1 HE0 HGX HQ1 HTW hHeld s7
            cases r with
            | true =>
              have HF2 := Sd.mk (show fi l (i + 1) = out from HFY.out rfl)
              go_wp2
              go_roundg (gk - 1)
              case measure => omega
              case rel => exact ⟨i + 1, B, k, d, by omega, by omega, rfl, by go_num, ⟨by rw [HF2.out]; exact HKL.out.symm⟩, ⟨by rw [HF2.out]; exact HRO8.out⟩⟩
            | false =>
              have HF2 := Sd.mk (show fi l (i + 1) = out ++ [x] from HFN.out rfl)
              go_wp2_with (first
                | (at_builtin; refine append_at (f := fR) (n := 3) (fun _ => rfl) fR_one rfl (.tmp 27) (.tmp 32) 33 47 (.agg #[.int .i64 0, .int .i64 0, .string ByteArray.empty]) 32 rfl Try.underlying33 info_rq rfl (by decide) (.slice B k d) out x rfl rfl HRO8.out.own (by rw [← HKL.out]; omega) (by rw [← HKL.out]; omega) ?_; intro v9 w9 hown hg hob; have HB9 := Sd.mk (below_grown HRO8.out.bel hg HRO8.out.bel.size HRO8.out.new); obtain ⟨A9, q9, rfl⟩ := OwnR.slice hown; have hl9 : (out ++ [x]).length = k + 1 := (by rw [List.length_append, ← HKL.out]; rfl); rw [hl9] at hown hob ⊢; have HO9 := Sd.mk hown; have HQ9 := Sd.mk (show ∀ j, (Value.slice A9 (k + 1) q9).ownBlock = some j → w.heap.size ≤ j from fun j hj => (by rcases hob with e2 | e2; (rw [hj] at e2; exact HRO8.out.new j e2.symm); (rw [hj] at e2; have := Option.some.inj e2; have := HRO8.out.bel.size; omega))); clear hown hg hob))
              go_roundg (gk - 1)
              case measure => omega
              case rel => exact ⟨i + 1, A9, k + 1, q9, by omega, by omega, rfl, by go_num, ⟨by rw [HF2.out, hl9]⟩, ⟨by rw [HF2.out]; exact ⟨HO9.out, HQ9.out, HB9.out⟩⟩⟩
          · go_simp
            have HB6 := Sd.mk (below_then (below_one W5 (.cells #[] 47)) (below_one _ (.cells #[.int .i64 x.c, .int .i64 x.s, .string x.b] 47)))
            have s6 := HCE.out _ HB6.out
            (refine hK.out _ _ s6 (fun hHeld => ?_); (clear hK K; try simp only [List.getElem_toArray, List.getElem_cons_succ, List.getElem_cons_zero, Act.put, List.setIfInBounds_toArray, List.set_cons_zero, List.set_cons_succ]))
            clear s6 HBA
            (refine wpAnyH_ready (rs := [2]) (by kernel_rfl) (by simp) ?_; refine AllReadyH.cons rfl (fun K hK => ?_) AllReadyH.nil)
            have HBA := HB6
            have HE0 := Sd.mk ((own_emptyR W5 47).below (below_one _ (.cells #[.int .i64 x.c, .int .i64 x.s, .string x.b] 47)))
            (refine step_appends_at (d := rqN) (f := fR) (n := 3) (fun _ _ _ => Iff.rfl) rfl (fun _ => rfl) fR_one rfl (.tmp 16) (.tmp 17) 33 47 (.agg #[.int .i64 0, .int .i64 0, .string ByteArray.empty]) 32 rfl Try.underlying33 info_rq rfl (by decide) (.slice (some ⟨_, 0, none⟩) 0 0) [] out B k d HKL.out rfl rfl (HRW.out.below HBA.out) HNC.out HE0.out (by have := HKL.out; simp only [List.length_nil]; omega) (by have := HKL.out; simp only [List.length_nil]; omega) ?_; intro v1 w1 hown hg hob; rw [List.nil_append] at hown; obtain ⟨A6, q6, rfl⟩ := OwnR.slice hown; rw [← HKL.out] at hown hob ⊢; have HO1 := Sd.mk hown; have HGX := Sd.mk hg; have HB1 := Sd.mk (below_grown HBA.out hg HBA.out.size (fun j e => by simp [Value.ownBlock] at e; omega)); have HQ1 := Sd.mk (show ∀ j, (Value.slice A6 k q6).ownBlock = some j → W5.heap.size ≤ j from fun j hj => by (have := HBA.out.size; rcases hob with e2 | e2; (rw [hj] at e2; simp [Value.ownBlock] at e2; omega); (rw [hj] at e2; simp at e2; omega))); clear hown hg hob)
            have HB2 := HB1
            have HO2 := HO1
            have HY1 := Sd.mk (show Row rqN w1 (some ⟨W5.heap.size + 1, 0, none⟩) [x] from by rw [← show (W5.alloc (.cells #[] 47)).heap.size = W5.heap.size + 1 by simp]; exact row_rq1 (blk_grown (blk_new (W5.alloc (.cells #[] 47)) (.cells #[.int .i64 x.c, .int .i64 x.s, .string x.b] 47)) HGX.out (by simp [Value.ownBlock])))
            have s6 := HCE.out _ HB2.out
            (refine hK.out _ _ s6 (fun hHeld => ?_); (clear hK K; try simp only [List.getElem_toArray, List.getElem_cons_succ, List.getElem_cons_zero, Act.put, List.setIfInBounds_toArray, List.set_cons_zero, List.set_cons_succ]))
            clear s6 HB6
            (refine wpAnyH_ready (rs := [8]) (by kernel_rfl) (by simp) ?_; refine AllReadyH.cons rfl (fun K hK => ?_) AllReadyH.nil)
            (refine step_appends_at (d := rqN) (f := fR) (n := 3) (fun _ _ _ => Iff.rfl) rfl (fun _ => rfl) fR_one rfl (.tmp 18) (.tmp 23) 33 47 (.agg #[.int .i64 0, .int .i64 0, .string ByteArray.empty]) 32 rfl Try.underlying33 info_rq rfl (by decide) (.slice A6 k q6) out [x] _ 1 1 rfl rfl rfl HY1.out (fun e => by cases e) HO2.out (by have := HKL.out; simp only [List.length_cons, List.length_nil]; omega) (by have := HKL.out; simp only [List.length_cons, List.length_nil]; omega) ?_; intro v2 w2 hown hg hob; have HB7 := Sd.mk (below_grown HB2.out hg HB2.out.size (fun j e => HQ1.out j e)); have HTW := Sd.mk (HTC.out w2 v2 hown); obtain ⟨A7, q7, rfl⟩ := OwnR.slice hown; have hl7 : (out ++ [x]).length = k + 1 := (by rw [List.length_append, ← HKL.out]; rfl); rw [hl7] at hob HTW ⊢; clear hown hg hob hl7; have s7 := HCE.out _ HB7.out; (refine hK.out _ _ s7 (fun hHeld => ?_); (clear hK K; try simp only [List.getElem_toArray, List.getElem_cons_succ, List.getElem_cons_zero, Act.put, List.setIfInBounds_toArray, List.set_cons_zero, List.set_cons_succ])))
            (refine wpAnyH_ready (rs := [9]) (by kernel_rfl) (by simp) ?_; refine AllReadyH.cons rfl (fun K hK => ?_) AllReadyH.nil; go_simp; go_at_call 59; refine (HTW.out A7 (k + 1) q7 rfl).mono ?_; rintro e w8 ⟨rfl, hb8⟩; have HB8 := Sd.mk (below_then HB7.out hb8); clear hb8; have s8 := HCE.out _ HB8.out; (refine hK.out _ _ s8 (fun hHeld => ?_); (clear hK K; try simp only [List.getElem_toArray, List.getElem_cons_succ, List.getElem_cons_zero, Act.put, List.setIfInBounds_toArray, List.set_cons_zero, List.set_cons_succ])))
            (refine wpAnyH_done (by kernel_rfl) ?_ _; simp only [Peel.Qn, List.drop_succ_cons, List.drop_zero]; clear hHeld)
            have HRO8 := Sd.mk (HRO.out.below HB8.out)
            obtain ⟨t0, t1, t2⟩ := s8
            clear HRO HRW HCE HTC HBA HB1 HB2 HB7 HB8 HO1 HO2 HY1 HE0 HGX HQ1 HTW hHeld s7
            cases r with
            | true =>
              have HF2 := Sd.mk (show fi l (i + 1) = out from HFY.out rfl)
              go_wp2
              go_roundg (gk - 1)
              case measure => omega
              case rel => exact ⟨i + 1, B, k, d, by omega, by omega, rfl, by go_num, ⟨by rw [HF2.out]; exact HKL.out.symm⟩, ⟨by rw [HF2.out]; exact HRO8.out⟩⟩
            | false =>
              have HF2 := Sd.mk (show fi l (i + 1) = out ++ [x] from HFN.out rfl)
              go_wp2_with (first
                | (at_builtin; refine append_at (f := fR) (n := 3) (fun _ => rfl) fR_one rfl (.tmp 27) (.tmp 32) 33 47 (.agg #[.int .i64 0, .int .i64 0, .string ByteArray.empty]) 32 rfl Try.underlying33 info_rq rfl (by decide) (.slice B k d) out x rfl rfl HRO8.out.own (by rw [← HKL.out]; omega) (by rw [← HKL.out]; omega) ?_; intro v9 w9 hown hg hob; have HB9 := Sd.mk (below_grown HRO8.out.bel hg HRO8.out.bel.size HRO8.out.new); obtain ⟨A9, q9, rfl⟩ := OwnR.slice hown; have hl9 : (out ++ [x]).length = k + 1 := (by rw [List.length_append, ← HKL.out]; rfl); rw [hl9] at hown hob ⊢; have HO9 := Sd.mk hown; have HQ9 := Sd.mk (show ∀ j, (Value.slice A9 (k + 1) q9).ownBlock = some j → w.heap.size ≤ j from fun j hj => (by rcases hob with e2 | e2; (rw [hj] at e2; exact HRO8.out.new j e2.symm); (rw [hj] at e2; have := Option.some.inj e2; have := HRO8.out.bel.size; omega))); clear hown hg hob))
              go_roundg (gk - 1)
              case measure => omega
              case rel => exact ⟨i + 1, A9, k + 1, q9, by omega, by omega, rfl, by go_num, ⟨by rw [HF2.out, hl9]⟩, ⟨by rw [HF2.out]; exact ⟨HO9.out, HQ9.out, HB9.out⟩⟩⟩
        · go_simp
          have s6 := HCE.out _ (below_one W5 (.cells #[.int .i64 x.c, .int .i64 x.s, .string x.b] 47))
          (refine hK.out _ _ s6 (fun hHeld => ?_); (clear hK K; try simp only [List.getElem_toArray, List.getElem_cons_succ, List.getElem_cons_zero, Act.put, List.setIfInBounds_toArray, List.set_cons_zero, List.set_cons_succ]))
          clear s6
          (refine wpAnyH_ready (rs := [0]) (by kernel_rfl) (by simp) ?_; refine AllReadyH.cons rfl (fun K hK => ?_) AllReadyH.nil)
          go_simp
          have HB6 := Sd.mk (below_then (below_one W5 (.cells #[.int .i64 x.c, .int .i64 x.s, .string x.b] 47)) (below_one _ (.cells #[] 47)))
          have s6 := HCE.out _ HB6.out
          (refine hK.out _ _ s6 (fun hHeld => ?_); (clear hK K; try simp only [List.getElem_toArray, List.getElem_cons_succ, List.getElem_cons_zero, Act.put, List.setIfInBounds_toArray, List.set_cons_zero, List.set_cons_succ]))
          clear s6
          (refine wpAnyH_ready (rs := [2]) (by kernel_rfl) (by simp) ?_; refine AllReadyH.cons rfl (fun K hK => ?_) AllReadyH.nil)
          have HBA := HB6
          have HE0 := Sd.mk (show OwnR fR 3 ((W5.alloc (.cells #[.int .i64 x.c, .int .i64 x.s, .string x.b] 47)).alloc (.cells #[] 47)) 0 47 (.slice (some ⟨W5.heap.size + 1, 0, none⟩) 0 0) [] from by rw [← show (W5.alloc (.cells #[.int .i64 x.c, .int .i64 x.s, .string x.b] 47)).heap.size = W5.heap.size + 1 by simp]; exact own_emptyR (W5.alloc (.cells #[.int .i64 x.c, .int .i64 x.s, .string x.b] 47)) 47)
          (refine step_appends_at (d := rqN) (f := fR) (n := 3) (fun _ _ _ => Iff.rfl) rfl (fun _ => rfl) fR_one rfl (.tmp 16) (.tmp 17) 33 47 (.agg #[.int .i64 0, .int .i64 0, .string ByteArray.empty]) 32 rfl Try.underlying33 info_rq rfl (by decide) (.slice (some ⟨_, 0, none⟩) 0 0) [] out B k d HKL.out rfl rfl (HRW.out.below HBA.out) HNC.out HE0.out (by have := HKL.out; simp only [List.length_nil]; omega) (by have := HKL.out; simp only [List.length_nil]; omega) ?_; intro v1 w1 hown hg hob; rw [List.nil_append] at hown; obtain ⟨A6, q6, rfl⟩ := OwnR.slice hown; rw [← HKL.out] at hown hob ⊢; have HO1 := Sd.mk hown; have HGX := Sd.mk hg; have HB1 := Sd.mk (below_grown HBA.out hg HBA.out.size (fun j e => by simp [Value.ownBlock] at e; omega)); have HQ1 := Sd.mk (show ∀ j, (Value.slice A6 k q6).ownBlock = some j → W5.heap.size ≤ j from fun j hj => by (have := HBA.out.size; rcases hob with e2 | e2; (rw [hj] at e2; simp [Value.ownBlock] at e2; omega); (rw [hj] at e2; simp at e2; omega))); clear hown hg hob)
          have HB2 := HB1
          have HO2 := HO1
          have HY1 := Sd.mk (row_rq1 (blk_grown (blk_keep (blk_new W5 (.cells #[.int .i64 x.c, .int .i64 x.s, .string x.b] 47)) (below_one _ (.cells #[] 47))) HGX.out (by simp [Value.ownBlock])))
          have s6 := HCE.out _ HB2.out
          (refine hK.out _ _ s6 (fun hHeld => ?_); (clear hK K; try simp only [List.getElem_toArray, List.getElem_cons_succ, List.getElem_cons_zero, Act.put, List.setIfInBounds_toArray, List.set_cons_zero, List.set_cons_succ]))
          clear s6 HB6
          (refine wpAnyH_ready (rs := [8]) (by kernel_rfl) (by simp) ?_; refine AllReadyH.cons rfl (fun K hK => ?_) AllReadyH.nil)
          (refine step_appends_at (d := rqN) (f := fR) (n := 3) (fun _ _ _ => Iff.rfl) rfl (fun _ => rfl) fR_one rfl (.tmp 18) (.tmp 23) 33 47 (.agg #[.int .i64 0, .int .i64 0, .string ByteArray.empty]) 32 rfl Try.underlying33 info_rq rfl (by decide) (.slice A6 k q6) out [x] _ 1 1 rfl rfl rfl HY1.out (fun e => by cases e) HO2.out (by have := HKL.out; simp only [List.length_cons, List.length_nil]; omega) (by have := HKL.out; simp only [List.length_cons, List.length_nil]; omega) ?_; intro v2 w2 hown hg hob; have HB7 := Sd.mk (below_grown HB2.out hg HB2.out.size (fun j e => HQ1.out j e)); have HTW := Sd.mk (HTC.out w2 v2 hown); obtain ⟨A7, q7, rfl⟩ := OwnR.slice hown; have hl7 : (out ++ [x]).length = k + 1 := (by rw [List.length_append, ← HKL.out]; rfl); rw [hl7] at hob HTW ⊢; clear hown hg hob hl7; have s7 := HCE.out _ HB7.out; (refine hK.out _ _ s7 (fun hHeld => ?_); (clear hK K; try simp only [List.getElem_toArray, List.getElem_cons_succ, List.getElem_cons_zero, Act.put, List.setIfInBounds_toArray, List.set_cons_zero, List.set_cons_succ])))
          (refine wpAnyH_ready (rs := [9]) (by kernel_rfl) (by simp) ?_; refine AllReadyH.cons rfl (fun K hK => ?_) AllReadyH.nil; go_simp; go_at_call 59; refine (HTW.out A7 (k + 1) q7 rfl).mono ?_; rintro e w8 ⟨rfl, hb8⟩; have HB8 := Sd.mk (below_then HB7.out hb8); clear hb8; have s8 := HCE.out _ HB8.out; (refine hK.out _ _ s8 (fun hHeld => ?_); (clear hK K; try simp only [List.getElem_toArray, List.getElem_cons_succ, List.getElem_cons_zero, Act.put, List.setIfInBounds_toArray, List.set_cons_zero, List.set_cons_succ])))
          (refine wpAnyH_done (by kernel_rfl) ?_ _; simp only [Peel.Qn, List.drop_succ_cons, List.drop_zero]; clear hHeld)
          have HRO8 := Sd.mk (HRO.out.below HB8.out)
          obtain ⟨t0, t1, t2⟩ := s8
          clear HRO HRW HCE HTC HBA HB1 HB2 HB7 HB8 HO1 HO2 HY1 HE0 HGX HQ1 HTW hHeld s7
          cases r with
          | true =>
            have HF2 := Sd.mk (show fi l (i + 1) = out from HFY.out rfl)
            go_wp2
            go_roundg (gk - 1)
            case measure => omega
            case rel => exact ⟨i + 1, B, k, d, by omega, by omega, rfl, by go_num, ⟨by rw [HF2.out]; exact HKL.out.symm⟩, ⟨by rw [HF2.out]; exact HRO8.out⟩⟩
          | false =>
            have HF2 := Sd.mk (show fi l (i + 1) = out ++ [x] from HFN.out rfl)
            go_wp2_with (first
              | (at_builtin; refine append_at (f := fR) (n := 3) (fun _ => rfl) fR_one rfl (.tmp 27) (.tmp 32) 33 47 (.agg #[.int .i64 0, .int .i64 0, .string ByteArray.empty]) 32 rfl Try.underlying33 info_rq rfl (by decide) (.slice B k d) out x rfl rfl HRO8.out.own (by rw [← HKL.out]; omega) (by rw [← HKL.out]; omega) ?_; intro v9 w9 hown hg hob; have HB9 := Sd.mk (below_grown HRO8.out.bel hg HRO8.out.bel.size HRO8.out.new); obtain ⟨A9, q9, rfl⟩ := OwnR.slice hown; have hl9 : (out ++ [x]).length = k + 1 := (by rw [List.length_append, ← HKL.out]; rfl); rw [hl9] at hown hob ⊢; have HO9 := Sd.mk hown; have HQ9 := Sd.mk (show ∀ j, (Value.slice A9 (k + 1) q9).ownBlock = some j → w.heap.size ≤ j from fun j hj => (by rcases hob with e2 | e2; (rw [hj] at e2; exact HRO8.out.new j e2.symm); (rw [hj] at e2; have := Option.some.inj e2; have := HRO8.out.bel.size; omega))); clear hown hg hob))
            go_roundg (gk - 1)
            case measure => omega
            case rel => exact ⟨i + 1, A9, k + 1, q9, by omega, by omega, rfl, by go_num, ⟨by rw [HF2.out, hl9]⟩, ⟨by rw [HF2.out]; exact ⟨HO9.out, HQ9.out, HB9.out⟩⟩⟩
      · have hki : decide (k < 3) = false := decide_eq_false (by omega)
        have hki2 : decide ((k : Int) < 3) = false := decide_eq_false (by omega)
        have HE := Sd.mk (fi_end (l := l) (i := i) (by rw [← HN.out]; omega) (.inr (by rw [HK.out]; omega)))
        go_wp2
        go_ret
        exact ⟨_, rfl, by rw [HE.out]; exact HO.out⟩
    · have hii : decide (i < n) = false := decide_eq_false (by omega)
      have hii2 : decide ((i : Int) < (n : Int)) = false := decide_eq_false (by omega)
      have HE := Sd.mk (fi_end (l := l) (i := i) (by rw [← HN.out]; omega) (.inl ⟨by rw [← HN.out]; omega, by rw [HK.out]; exact hk3⟩))
      go_wp2
      go_ret
      exact ⟨_, rfl, by rw [HE.out]; exact HO.out⟩
end Go.Proofs.Ytnomgkmeomlccaa.Blk
set_option linter.unusedVariables false
set_option linter.unusedSimpArgs false

namespace Go.Proofs.Ytnomgkmeomlccaa.Blk
open Go.RowKit Go.Sort Rd Api Own Mv App Num Dig

/-- a view's leader -/
def lead (view : Int) (n : Nat) : Int := if view < 0 then 0 else view % (n : Int)
set_option maxHeartbeats 1000000 in
theorem leader_any (w : World) (view : Int) (hv : IsI64 view) (n : Nat) (n1 : 1 ≤ n) (n7 : n ≤ 7) (r : Int) (hr : lead view n = r) : Calls Try.prog 61 #[.int .i64 view, .int .i64 (n : Nat)] w fun e w' => e = .returned (.int .i64 r) ∧ w' = w := by
  have d1 : decide ((n : Int) < 1) = false := decide_eq_false (by omega)
  have d1b : decide (n < 1) = false := decide_eq_false (by omega)
  have hn0 : ((n : Int) == 0) = false := beq_eq_false_iff_ne.2 (by omega)
  have hn0b : ¬ (n : Int) = 0 := by omega
  have hn0c : ¬ n = 0 := by omega
  by_cases h0 : view < 0
  · have d0 : decide (view < 0) = true := decide_eq_true h0
    obtain rfl : r = 0 := by rw [← hr]; exact if_pos h0
    clear h0 hr
    go_enter Try.func61, Try.ntmps61
    go_wp2
    go_ret
    exact ⟨rfl, rfl⟩
  · have d0 : decide (view < 0) = false := decide_eq_false h0
    have p5 : view.tmod (n : Int) = r := by rw [Int.tmod_eq_emod_of_nonneg (by omega), ← hr]; exact (if_neg h0).symm
    clear h0 hr
    go_enter Try.func61, Try.ntmps61
    go_wp2
    go_ret
    exact ⟨rfl, rfl⟩
/-- a block that was made -/
def madeB (view : Int) (n : Nat) (x : Rp.Cert) (l : List Rq) : Block := ⟨view, lead view n, x, (firsts l).take 3⟩
theorem sl_take {W : World} {A : Option Addr} {c : Nat} {l : List Rq} (h : Sl rqN W A c l) (k : Nat) : Sl rqN W A c (l.take k) :=
  ⟨by rw [List.length_take]; have := h.le; omega, h.cap, fun i x hx => by
    rw [List.getElem?_take] at hx
    split at hx
    · exact h.row i x hx
    · cases hx⟩
set_option maxHeartbeats 8000000 in
set_option maxRecDepth 100000 in
theorem make_any (w : World) (view : Int) (hv : IsI64 view) (n : Nat) (n1 : 1 ≤ n) (n7 : n ≤ 7) (x : Rp.Cert) (A1 : Option Addr) (m1 c1 : Nat) (A : Option Addr) (c : Nat) (l : List Rq) (h : Sl rqN w A c l) (hnil : A = none → c = 0) (hlen : l.length ≤ 1000) (hI : ∀ x ∈ l, IsI64 x.c ∧ IsI64 x.s) (m : Nat) (hm : m = l.length) (kk : Nat) (hkk : ((firsts l).take 3).length = kk) (r : Int) (hr : lead view n = r) :
    Calls Try.prog 21 #[.int .i64 view, .int .i64 (n : Nat), .agg #[.int .i64 x.view, .string x.block, .slice A1 m1 c1], .slice A m c] w fun e w' => ∃ B d, e = .returned (.agg #[.int .i64 view, .int .i64 r, .int .i64 x.view, .string x.block, .slice A1 m1 c1, .slice B kk d]) ∧ Sl rqN w' B d ((firsts l).take 3) ∧ RowKit.Below w.heap.size w w' ∧ (B = none → d = 0) := by
  have mixed : Try.prog.follows .mixedOrders = true := by kernel_rfl
  have b0 := below_one w (.cells #[.int .i64 x.view, .string x.block, .slice A1 m1 c1] 39)
  have b1 := below_one (w.alloc (.cells #[.int .i64 x.view, .string x.block, .slice A1 m1 c1] 39)) (.cells #[.int .i64 0, .int .i64 0, .int .i64 0, .string { data := #[] }, .slice none 0 0, .slice none 0 0] 42)
  have HB := Sd.mk (below_then b0 b1)
  have X0 := Sd.mk (blk_keep (blk_new w (.cells #[.int .i64 x.view, .string x.block, .slice A1 m1 c1] 39)) b1)
  have Y0 := Sd.mk (show ((w.alloc (.cells #[.int .i64 x.view, .string x.block, .slice A1 m1 c1] 39)).alloc (.cells #[.int .i64 0, .int .i64 0, .int .i64 0, .string { data := #[] }, .slice none 0 0, .slice none 0 0] 42)).heap[w.heap.size + 1]? = some (.cells #[.int .i64 0, .int .i64 0, .int .i64 0, .string { data := #[] }, .slice none 0 0, .slice none 0 0] 42 (0, 0)) from blk_new1 _ _ _)
  have HO := Sd.mk (once_any _ A c l (h.below (below_then b0 b1)) hnil hlen hI m hm)
  have HLD := Sd.mk (fun W => leader_any W view hv n n1 n7 r hr)
  have HKK := Sd.mk hkk
  clear h b0 b1 hnil hlen hI hm hr hkk hv
  go_enter Try.func21, Try.ntmps21
  go_upto_region 1 with (fail)
  generalize hk1 : w.heap.size + 1 = Br at Y0 ⊢
  generalize hk0 : w.heap.size = Bc at X0 ⊢
  generalize (w.alloc _).alloc _ = W1 at X0 Y0 HB HO ⊢
  go_upto_region 2 with (first
    | (go_at_call 60; (with_reducible refine HO.out.mono ?_); rintro e w2 ⟨v, rfl, ho⟩; have HRO := Sd.mk ho; clear ho))
  obtain ⟨B, d, rfl, hsl⟩ := own_rq HRO.out.own
  obtain ⟨q, hq⟩ : ∃ q, (firsts l).length = q := ⟨_, rfl⟩
  have HSL := Sd.mk hsl
  have hqd := hsl.le
  have hdc := hsl.cap
  rw [hq] at hqd
  have hkq : min q 3 = kk := by have := HKK.out; rw [List.length_take, hq] at this; omega
  rw [hq] at HRO ⊢
  have hmin : min (q : Int) 3 = (kk : Int) := by omega
  have hkd : kk ≤ d := by omega
  have hkdi : (kk : Int) ≤ d := by omega
  have d1 := below_drew' (w := w2) (Below.refl w2.heap.size w2)
  have X1 := Sd.mk (blk_keep (blk_keep X0.out HRO.out.bel) d1)
  have Y1 := Sd.mk (blk_keep (blk_keep Y0.out HRO.out.bel) d1)
  have HRO1 := Sd.mk (HRO.out.below d1)
  have HS1 := Sd.mk (HSL.out.below d1)
  clear hq hsl d1 hkq X0 Y0 HO HSL HRO
  have S0 : w2.drew.cell? ⟨Bc, 0, none⟩ = some (.int .i64 x.view) ∧ w2.drew.cell? ⟨Bc, 1, none⟩ = some (.string x.block) ∧ w2.drew.cell? ⟨Bc, 2, none⟩ = some (.slice A1 m1 c1) := ⟨blk_at X1.out 0 _ rfl, blk_at X1.out 1 _ rfl, blk_at X1.out 2 _ rfl⟩
  refine Peel.region_peel (n := 11) (S := fun W => W.cell? ⟨Bc, 0, none⟩ = some (.int .i64 x.view) ∧ W.cell? ⟨Bc, 1, none⟩ = some (.string x.block) ∧ W.cell? ⟨Bc, 2, none⟩ = some (.slice A1 m1 c1)) (by kernel_rfl) (by kernel_rfl) S0 (fun hHeld => ?_)
  simp only [List.take_succ_cons, List.take_zero]
  generalize w2.drew = W3 at X1 Y1 HRO1 HS1 S0 hHeld ⊢
  (refine Peel.take 0 (v := ?_) rfl rfl (by kernel_rfl) (by kernel_rfl) (by kernel_rfl) (fun _ _ _ h => h) (by assumption) ?_ ?_; rotate_left; (focus (intro w hSw; obtain ⟨s0, s1, s2⟩ := hSw; (try dsimp only at s0 s1 s2); (try simp only [List.getElem_toArray, List.getElem_cons_succ, List.getElem_cons_zero]); go_simp; try (with_reducible rfl))); try simp only [List.getElem_toArray, List.getElem_cons_succ, List.getElem_cons_zero, Act.put, List.setIfInBounds_toArray, List.set_cons_zero, List.set_cons_succ])
  (refine Peel.take 1 (v := ?_) rfl rfl (by kernel_rfl) (by kernel_rfl) (by kernel_rfl) (fun _ _ _ h => h) (by assumption) ?_ ?_; rotate_left; (focus (intro w hSw; obtain ⟨s0, s1, s2⟩ := hSw; (try dsimp only at s0 s1 s2); (try simp only [List.getElem_toArray, List.getElem_cons_succ, List.getElem_cons_zero]); go_simp; try (with_reducible rfl))); try simp only [List.getElem_toArray, List.getElem_cons_succ, List.getElem_cons_zero, Act.put, List.setIfInBounds_toArray, List.set_cons_zero, List.set_cons_succ])
  (refine Peel.take 2 (v := ?_) rfl rfl (by kernel_rfl) (by kernel_rfl) (by kernel_rfl) (fun _ _ _ h => h) (by assumption) ?_ ?_; rotate_left; (focus (intro w hSw; obtain ⟨s0, s1, s2⟩ := hSw; (try dsimp only at s0 s1 s2); (try simp only [List.getElem_toArray, List.getElem_cons_succ, List.getElem_cons_zero]); go_simp; try (with_reducible rfl))); try simp only [List.getElem_toArray, List.getElem_cons_succ, List.getElem_cons_zero, Act.put, List.setIfInBounds_toArray, List.set_cons_zero, List.set_cons_succ])
  (refine Peel.take 4 (v := ?_) rfl rfl (by kernel_rfl) (by kernel_rfl) (by kernel_rfl) (fun _ _ _ h => h) (by assumption) ?_ ?_; rotate_left; (focus (intro w hSw; obtain ⟨s0, s1, s2⟩ := hSw; (try dsimp only at s0 s1 s2); (try simp only [List.getElem_toArray, List.getElem_cons_succ, List.getElem_cons_zero]); go_simp; try (with_reducible rfl))); try simp only [List.getElem_toArray, List.getElem_cons_succ, List.getElem_cons_zero, Act.put, List.setIfInBounds_toArray, List.set_cons_zero, List.set_cons_succ])
  (refine Peel.take 5 (v := ?_) rfl rfl (by kernel_rfl) (by kernel_rfl) (by kernel_rfl) (fun _ _ _ h => h) (by assumption) ?_ ?_; rotate_left; (focus (intro w hSw; obtain ⟨s0, s1, s2⟩ := hSw; (try dsimp only at s0 s1 s2); (try simp only [List.getElem_toArray, List.getElem_cons_succ, List.getElem_cons_zero]); go_simp; try (with_reducible rfl))); try simp only [List.getElem_toArray, List.getElem_cons_succ, List.getElem_cons_zero, Act.put, List.setIfInBounds_toArray, List.set_cons_zero, List.set_cons_succ])
  (refine Peel.take 6 (v := ?_) rfl rfl (by kernel_rfl) (by kernel_rfl) (by kernel_rfl) (fun _ _ _ h => h) (by assumption) ?_ ?_; rotate_left; (focus (intro w hSw; obtain ⟨s0, s1, s2⟩ := hSw; (try dsimp only at s0 s1 s2); (try simp only [List.getElem_toArray, List.getElem_cons_succ, List.getElem_cons_zero]); go_simp; try (with_reducible rfl))); try simp only [List.getElem_toArray, List.getElem_cons_succ, List.getElem_cons_zero, Act.put, List.setIfInBounds_toArray, List.set_cons_zero, List.set_cons_succ])
  (refine Peel.take 7 (v := ?_) rfl rfl (by kernel_rfl) (by kernel_rfl) (by kernel_rfl) (fun _ _ _ h => h) (by assumption) ?_ ?_; rotate_left; (focus (intro w hSw; obtain ⟨s0, s1, s2⟩ := hSw; (try dsimp only at s0 s1 s2); (try simp only [List.getElem_toArray, List.getElem_cons_succ, List.getElem_cons_zero]); go_simp; try (with_reducible rfl))); try simp only [List.getElem_toArray, List.getElem_cons_succ, List.getElem_cons_zero, Act.put, List.setIfInBounds_toArray, List.set_cons_zero, List.set_cons_succ])
  (refine Peel.take 8 (v := ?_) rfl rfl (by kernel_rfl) (by kernel_rfl) (by kernel_rfl) (fun _ _ _ h => h) (by assumption) ?_ ?_; rotate_left; (focus (intro w hSw; obtain ⟨s0, s1, s2⟩ := hSw; (try dsimp only at s0 s1 s2); (try simp only [List.getElem_toArray, List.getElem_cons_succ, List.getElem_cons_zero]); go_simp; try (with_reducible rfl))); try simp only [List.getElem_toArray, List.getElem_cons_succ, List.getElem_cons_zero, Act.put, List.setIfInBounds_toArray, List.set_cons_zero, List.set_cons_succ])
  (refine Peel.take 9 (v := ?_) rfl rfl (by kernel_rfl) (by kernel_rfl) (by kernel_rfl) (fun _ _ _ h => h) (by assumption) ?_ ?_; rotate_left; (focus (intro w hSw; obtain ⟨s0, s1, s2⟩ := hSw; (try dsimp only at s0 s1 s2); (try simp only [List.getElem_toArray, List.getElem_cons_succ, List.getElem_cons_zero]); go_simp; try (with_reducible rfl))); try simp only [List.getElem_toArray, List.getElem_cons_succ, List.getElem_cons_zero, Act.put, List.setIfInBounds_toArray, List.set_cons_zero, List.set_cons_succ])
  (refine wpAnyH_ready (rs := [3]) (by kernel_rfl) (by simp) ?_; refine AllReadyH.cons rfl (fun K hK => ?_) AllReadyH.nil)
  go_simp
  go_at_call 61
  refine (HLD.out _).mono ?_
  rintro e w4 ⟨rfl, rfl⟩
  (refine hK.out _ _ S0 (fun hHeld => ?_); (clear hK K; try simp only [List.getElem_toArray, List.getElem_cons_succ, List.getElem_cons_zero, Act.put, List.setIfInBounds_toArray, List.set_cons_zero, List.set_cons_succ]))
  (refine Peel.take 10 (v := ?_) rfl rfl (by kernel_rfl) (by kernel_rfl) (by kernel_rfl) (fun _ _ _ h => h) (by assumption) ?_ ?_; rotate_left; (focus (intro w hSw; obtain ⟨s0, s1, s2⟩ := hSw; (try dsimp only at s0 s1 s2); (try simp only [List.getElem_toArray, List.getElem_cons_succ, List.getElem_cons_zero]); go_simp; try (with_reducible rfl))); try simp only [List.getElem_toArray, List.getElem_cons_succ, List.getElem_cons_zero, Act.put, List.setIfInBounds_toArray, List.set_cons_zero, List.set_cons_succ])
  (refine wpAnyH_done (by kernel_rfl) ?_ _; simp only [Peel.Qn, List.drop_succ_cons, List.drop_zero]; clear hHeld)
  have HGE := Sd.mk (show w.heap.size ≤ Br by omega)
  have HNC := Sd.mk (own_nc HRO1.out.own B _ d rfl)
  have HNE := Sd.mk (show ∀ j, (Value.slice B q d).ownBlock = some j → j ≠ Br from fun j hj e => by subst e; exact OwnR.blk HRO1.out.own Y1.out (by decide) hj)
  have f0 := blk_frz Y1.out 0
  have f1 := blk_frz Y1.out 1
  have f2 := blk_frz Y1.out 2
  have f3 := blk_frz Y1.out 3
  have f4 := blk_frz Y1.out 4
  have f5 := blk_frz Y1.out 5
  have r0 := blk_at Y1.out 0 _ rfl
  have r1 := blk_at Y1.out 1 _ rfl
  have r2 := blk_at Y1.out 2 _ rfl
  have r3 := blk_at Y1.out 3 _ rfl
  have r4 := blk_at Y1.out 4 _ rfl
  have r5 := blk_at Y1.out 5 _ rfl
  clear hHeld S0
  go_wp2
  obtain ⟨y0, y1, y2, y3, y4, y5⟩ := fin6_cells Y1.out (.int .i64 view) (.int .i64 r) (.int .i64 x.view) (.string x.block) (.slice A1 m1 c1) (.slice B kk d)
  have hgr := fin6_grown Br w4 (.int .i64 view) (.int .i64 r) (.int .i64 x.view) (.string x.block) (.slice A1 m1 c1) (.slice B kk d)
  have HBW := Sd.mk (below_then HB.out HRO1.out.bel)
  have HF := Sd.mk (below_grown HBW.out hgr HBW.out.size (fun k e => by obtain rfl := Option.some.inj e; exact HGE.out))
  have HSF := Sd.mk (show Sl rqN (fin6 Br w4 (.int .i64 view) (.int .i64 r) (.int .i64 x.view) (.string x.block) (.slice A1 m1 c1) (.slice B kk d)) B d ((firsts l).take 3) from by
    obtain ⟨B', d', hv, hs2⟩ := own_rq (OwnR.grown HRO1.out.own hgr (by
      cases e : (Value.slice B q d).ownBlock with
      | none => exact .inl rfl
      | some k => exact .inr (fun e2 => HNE.out k e (Option.some.inj e2))))
    simp only [Value.slice.injEq] at hv
    obtain ⟨rfl, -, rfl⟩ := hv
    exact sl_take hs2 3)
  clear f0 f1 f2 f3 f4 f5 r0 r1 r2 r3 r4 r5 hgr
  change bodyPost _ _ _ _ _ (fin6 Br w4 (.int .i64 view) (.int .i64 r) (.int .i64 x.view) (.string x.block) (.slice A1 m1 c1) (.slice B kk d))
  generalize fin6 Br w4 _ _ _ _ _ _ = W9 at y0 y1 y2 y3 y4 y5 HF HSF ⊢
  exact bodyPost_ret (v := .agg #[.int .i64 view, .int .i64 r, .int .i64 x.view, .string x.block, .slice A1 m1 c1, .slice B kk d]) (by simp [results, Try.results21, go_sem, y0, y1, y2, y3, y4, y5]) rfl ⟨B, d, rfl, HSF.out, HF.out, HNC.out⟩
end Go.Proofs.Ytnomgkmeomlccaa.Blk
