/- A ledger: what is asked of it; the reference's entries: walked. -/
import Derived.Test.YtgleoeiiiadanaaLedD
import Derived.Laws.AppendOwnNone
import Derived.WalkSpells
import Derived.Lib.LazyBuf
set_option linter.unusedVariables false
set_option linter.unusedSimpArgs false
namespace Go.Proofs.Ytgleoeiiiadanaa.Led
open Go.RowKit Rd Api Own Mv Num Dig Wtx

section
variable {P : Program} {ops : Array Oper} {rest : List Oper} {o : Oper} {a : Act} {Q : Exit → Act → World → Prop}
/-- append(v, ys...) -/
theorem appends_at {α : Type} {d : Rk α} {f : α → List Value} {n : Nat} (hd : ∀ w x cs, d.K w x cs ↔ cs = f x) (hdn : d.sz = n) (hn : ∀ x, (f x).length = n) (h1 : ∀ x, ∀ u ∈ f x, u.oneCell' = true) {W : World} (hgd : o.guard = none) (s x : Operand) (t e : TypeId) (z : Value) (bytes : Nat)
    (ho : o.op = .call { callee := .builtin .append, args := #[s, x], argTypes := #[t, t] })
    (ht : P.underlying t = some (.slice e)) (hinfo : (P.info? e).map (fun i => (i.zero, i.size, i.bytes)) = some (some z, n, bytes)) (hz : z.cells.size = n) (hn0 : 0 < n)
    (v : Value) (xs ys : List α) (A : Option Addr) (c : Nat) (hs : a.eval s = v) (hx : a.eval x = .slice A ys.length c) (hA : Row d W A ys) (hc : A = none → c = 0)
    (HO : OwnR f n W 0 e v xs) (hl : (xs.length + ys.length) * bytes ≤ 140737488355328) (hl2 : xs.length + ys.length ≤ 9223372036854775807)
    (h : ∀ v1 w1, OwnR f n w1 0 e v1 (xs ++ ys) → W.grownBy w1 v.ownBlock → (v1.ownBlock = v.ownBlock ∨ v1.ownBlock = some W.heap.size) → wpList P ops Q rest (a.put o.dst v1) w1) :
    wpList P ops Q (o :: rest) a W := by
  obtain ⟨i0, hi, hzz⟩ := Option.map_eq_some_iff.1 hinfo
  simp only [Prod.mk.injEq] at hzz
  obtain ⟨hz0, hz1, hz2⟩ := hzz
  cases A with
  | none =>
    have hc0 := hc rfl
    subst hc0
    have hy : ys = [] := by
      cases ys with
      | nil => rfl
      | cons y r => obtain ⟨b, o, cs, hA, _⟩ := hA 0 y rfl; cases hA
    subst hy
    refine wpList_append_own_none hgd s x t ho 0 e i0 n ht hi v xs.length (flat f xs) hs HO hx ?_
    exact h v W (by simpa using HO) ⟨rfl, rfl, rfl, Nat.le_refl _, fun _ _ _ => rfl⟩ (.inl rfl)
  | some ad =>
    refine wpList_append_own_at W hgd s x t ho 0 e i0 z n bytes ht hi hz0 hz1 hz2 hz hn0 v xs.length (flat f xs) hs HO ad ys.length c (flat f ys) hx (flat_length hn ys)
      (fun j u hu => ?_) (fun u hu => ?_) (by unfold maxLen; omega) hl (by simp) ?_
    · have hj : j < (flat f ys).length := by
        rcases Nat.lt_or_ge j (flat f ys).length with h | h
        · exact h
        · rw [List.getElem?_eq_none h] at hu; cases hu
      rw [flat_length hn] at hj
      have hq : j / n < ys.length := Nat.div_lt_of_lt_mul (by rw [Nat.mul_comm]; exact hj)
      obtain ⟨b, o1, cs, hAd, hK, hcell⟩ := hA (j / n) ys[j / n] (List.getElem?_eq_getElem hq)
      have hr : j % n < (f ys[j / n]).length := by rw [hn]; exact Nat.mod_lt _ hn0
      have hg := flat_get hn ys (j / n) ys[j / n] (List.getElem?_eq_getElem hq) (j % n) _ (List.getElem?_eq_getElem hr)
      have hdm : j / n * n + j % n = j := by rw [Nat.mul_comm]; exact Nat.div_add_mod j n
      rw [hdm, hu] at hg
      cases Option.some.inj hAd
      have := hcell (j % n) u (by rw [(hd _ _ _).1 hK, List.getElem?_eq_getElem hr]; exact hg.symm)
      rw [hdn] at this
      rw [add_flat, show o1 + j = o1 + j / n * n + j % n by omega]
      exact this
    · obtain ⟨y, _, hy⟩ := List.mem_flatMap.1 hu
      exact h1 y u hy
    · intro v1 w1 hown hg _ hb
      exact h v1 w1 (by unfold OwnR; unfold flat at hown ⊢; rw [List.flatMap_append]; simpa using hown) hg hb
end
theorem fR_one : ∀ x : Rq, ∀ u ∈ fR x, u.oneCell' = true := fun _ _ hu => by simp [fR] at hu; rcases hu with rfl | rfl | rfl <;> rfl
theorem own_row {W : World} {v : Value} {xs : List Rq} (h : OwnR fR 3 W 0 60 v xs) : ∃ A c, v = .slice A xs.length c ∧ Sl rqN W A c xs ∧ (A = none → c = 0) ∧ (∀ k, v.ownBlock = some k ↔ ∃ a, A = some a ∧ a.block = k) := by
  obtain ⟨A, c, hv, hs⟩ := OwnR.reads (d := rqN) (fun _ _ => rfl) (fun _ => rfl) rfl h
  refine ⟨A, c, hv, hs, fun hA => ?_, fun k => ?_⟩
  · subst hA
    rcases h.2 with ⟨h1, _⟩ | ⟨g, cap, cur, h1, _⟩
    · rw [hv] at h1; simp at h1; exact h1.2
    · rw [hv] at h1; simp at h1
  · subst hv
    cases A with
    | none => simp [Value.ownBlock]
    | some a => simp [Value.ownBlock]
/-- slices.Clone -/
theorem own_empty (W : World) (e : TypeId) : OwnR fR 3 (W.alloc (.cells #[] e)) 0 e (.slice (some ⟨W.heap.size, 0, none⟩) 0 0) [] :=
  ⟨rfl, .inr ⟨W.heap.size, 0, #[], rfl, Nat.zero_le _, blk_new W _, Nat.le_refl _, by unfold maxLen; omega, rfl, rfl⟩⟩
set_option maxHeartbeats 4000000 in
set_option maxRecDepth 100000 in
theorem clone_any (W : World) (v : Value) (xs : List Rq) (h : OwnR fR 3 W 0 60 v xs) (hlen : xs.length ≤ 1000) :
    Calls Try.prog 65 #[v] W fun e w' => ∃ v', e = .returned v' ∧ OwnR fR 3 w' 0 60 v' xs ∧ (∀ k, v'.ownBlock = some k → W.heap.size ≤ k) ∧ Below W.heap.size W w' := by
  obtain ⟨A, c, rfl, hs, hc, hob⟩ := own_row h
  cases A with
  | none =>
    have := hc rfl
    subst this
    have hy : xs = [] := by
      cases xs with
      | nil => rfl
      | cons y r => obtain ⟨b, o, cs, hA, _⟩ := hs.row 0 y rfl; cases hA
    subst hy
    have hnil := fun W1 a n c => Go.run_eql_slice_nil (P := Try.prog) W1 53 60 a n c Try.underlying53
    go_enter Try.func65, Try.ntmps65
    go_wp2
    go_ret
    exact ⟨_, rfl, OwnR.nil _ _ _ _ _, fun k hk => (by simp [Value.ownBlock] at hk), Below.refl _ _⟩
  | some ad =>
    have HR := Sd.mk (hs.row.below (below_one W (.cells #[] 60)))
    have HE := Sd.mk (own_empty W 60)
    have HB := Sd.mk (below_one W (.cells #[] 60))
    clear h hs hc hob
    have hnil := fun W1 a n c => Go.run_eql_slice_nil (P := Try.prog) W1 53 60 a n c Try.underlying53
    go_enter Try.func65, Try.ntmps65
    go_wp2_with (first
      | (at_builtin; refine appends_at (d := rqN) (f := fR) (n := 3) (fun _ _ _ => Iff.rfl) rfl (fun _ => rfl) fR_one rfl (.tmp 5) (.tmp 6) 53 60 (.agg #[.int .i64 0, .int .i64 0, .string ByteArray.empty]) 32 rfl Try.underlying53 info_req rfl (by decide) (.slice (some ⟨W.heap.size, 0, none⟩) 0 0) [] xs (some ad) c rfl rfl HR.out (fun e => by cases e) HE.out (by simp; omega) (by simp; omega) ?_; intro v1 w1 hown hg hob; have HO := Sd.mk hown; have HG := Sd.mk hg; have HQ := Sd.mk hob; clear hown hg hob))
    go_ret
    refine ⟨v1, rfl, by have := HO.out; simpa using this, ?_, below_grown HB.out HG.out (by simp) (fun k e => by simp [Value.ownBlock] at e; omega)⟩
    intro k hk
    rcases HQ.out with e | e
    · rw [hk] at e; simp [Value.ownBlock] at e; omega
    · rw [hk] at e; simp at e; omega

section
variable {S : Nat → Prop} {W : World} {g b : Nat} {ve vd : Value} {xs : List Rq}
set_option maxHeartbeats 4000000 in
set_option maxRecDepth 100000 in
theorem len_any (h : Led S g b ve vd xs W) : Calls Try.prog 48 #[.pointer (some ⟨g, 0, none⟩)] W fun e w' => e = .returned (.int .i64 (xs.length : Nat)) ∧ w' = W := by
  obtain ⟨A, c, hv⟩ := OwnR.slice h.own
  have g0 := blk_at h.blk 0 _ rfl
  obtain ⟨n, hn⟩ : ∃ n, n = xs.length := ⟨_, rfl⟩
  subst hv
  rw [← hn] at g0 ⊢
  clear h hn
  go_enter Try.func48, Try.ntmps48
  go_wp2
  go_ret
  exact ⟨rfl, rfl⟩
set_option maxHeartbeats 4000000 in
set_option maxRecDepth 100000 in
theorem entries_any (h : Led S g b ve vd xs W) (hlen : xs.length ≤ 1000) : Calls Try.prog 47 #[.pointer (some ⟨g, 0, none⟩)] W fun e w' => ∃ v', e = .returned v' ∧ OwnR fR 3 w' 0 60 v' xs ∧ (∀ k, v'.ownBlock = some k → W.heap.size ≤ k) ∧ Below W.heap.size W w' := by
  have g0 := blk_at h.blk 0 _ rfl
  have hc := clone_any W ve xs h.own hlen
  clear h hlen
  obtain ⟨v, hv⟩ : ∃ v, v = ve := ⟨_, rfl⟩
  rw [← hv] at hc
  go_enter Try.func47, Try.ntmps47
  go_wp2_with (first
    | (go_at_call 65; (refine (hv ▸ hc).mono ?_); rintro e w1 ⟨v', rfl, h1, h2, h3⟩))
  go_ret
  exact ⟨v', rfl, h1, h2, h3⟩
set_option maxHeartbeats 4000000 in
set_option maxRecDepth 100000 in
theorem digest_no (h : Led S g b ve vd xs W) (n : Int) (hn : n < 0 ∨ (xs.length : Int) < n) : Calls Try.prog 41 #[.pointer (some ⟨g, 0, none⟩), .int .i64 n] W fun e w' => e = .returned (.tuple #[.string { data := #[] }, .int .i64 10]) ∧ w' = W := by
  obtain ⟨A, c, hv⟩ := OwnR.slice h.own
  have g0 := blk_at h.blk 0 _ rfl
  obtain ⟨m, hm⟩ : ∃ m, m = xs.length := ⟨_, rfl⟩
  subst hv
  rw [← hm] at g0 hn
  clear h hm
  by_cases h0 : n < 0
  · have d0 : decide (n < 0) = true := decide_eq_true h0
    go_enter Try.func41, Try.ntmps41
    go_wp2
    exact bodyPost_ret (v := .tuple #[.string { data := #[] }, .int .i64 10]) (by simp [results, Try.results41, go_sem]) rfl ⟨rfl, rfl⟩
  · have d0 : decide (n < 0) = false := decide_eq_false h0
    have d1 : decide ((m : Int) < n) = true := decide_eq_true (by omega)
    go_enter Try.func41, Try.ntmps41
    go_wp2
    exact bodyPost_ret (v := .tuple #[.string { data := #[] }, .int .i64 10]) (by simp [results, Try.results41, go_sem]) rfl ⟨rfl, rfl⟩
set_option maxHeartbeats 4000000 in
set_option maxRecDepth 100000 in
theorem digest_yes (h : Led S g b ve vd xs W) (n : Nat) (hn : n ≤ xs.length) (hlen : xs.length ≤ 1000) (d : ByteArray) (hd : dgst (xs.take n) = d) : Calls Try.prog 41 #[.pointer (some ⟨g, 0, none⟩), .int .i64 (n : Nat)] W fun e w' => e = .returned (.tuple #[.string d, .int .i64 0]) ∧ w' = W := by
  obtain ⟨A, c, hv⟩ := OwnR.slice h.own
  have g0 := blk_at h.blk 0 _ rfl
  have g1 := blk_at h.blk 1 _ rfl
  obtain ⟨A2, c2, hv2, hs⟩ := OwnR.reads (d := strN) (fun _ _ => rfl) (fun _ => rfl) rfl h.dig
  obtain ⟨b2, o2, rfl, hcell⟩ := strN_at hs.row (i := n) (by rw [digs_length]; omega)
  rw [(List.getElem_eq_iff (by rw [digs_length]; omega)).2 (show (digs xs)[n]? = some d by rw [digs_at _ hn, hd])] at hcell
  obtain ⟨m, hm⟩ : ∃ m, m = xs.length := ⟨_, rfl⟩
  subst hv
  subst hv2
  rw [digs_length, ← hm] at g1
  rw [← hm] at g0 hn
  have d0 : decide ((n : Int) < 0) = false := decide_eq_false (by omega)
  have d1 : decide ((m : Int) < (n : Int)) = false := decide_eq_false (by omega)
  have d2 : decide (m < n) = false := decide_eq_false (by omega)
  have hi : (n : Int) < (m : Int) + 1 := by omega
  have hi2 : n < m + 1 := by omega
  have hl : m ≤ 1000 := by omega
  clear h hm hs hd hlen
  go_enter Try.func41, Try.ntmps41
  go_wp2
  exact bodyPost_ret (v := .tuple #[.string d, .int .i64 0]) (by simp [results, Try.results41, go_sem]) rfl ⟨rfl, rfl⟩
set_option maxHeartbeats 4000000 in
set_option maxRecDepth 100000 in
theorem index_any (h : Led S g b ve vd xs W) (c s : Int) (hc : IsI64 c) (hs : IsI64 s) : Calls Try.prog 45 #[.pointer (some ⟨g, 0, none⟩), .int .i64 c, .int .i64 s] W fun e w' => e = .returned (match idx xs c s with | some j => .tuple #[.int .i64 (j : Nat), .bool true] | none => .tuple #[.int .i64 0, .bool false]) ∧ w' = W := by
  have g2 := blk_at h.blk 2 _ rfl
  have hl := mp_look h.map h.fine h.nd hc hs
  unfold keyV at hl
  clear h hc hs
  cases hj : idx xs c s with
  | none =>
    rw [hj] at hl
    simp only at hl ⊢
    clear hj
    go_enter Try.func45, Try.ntmps45
    go_wp2
    exact bodyPost_ret (v := .tuple #[.int .i64 0, .bool false]) (by simp [results, Try.results45, go_sem]) rfl ⟨rfl, rfl⟩
  | some j =>
    rw [hj] at hl
    simp only at hl ⊢
    clear hj
    go_enter Try.func45, Try.ntmps45
    go_wp2
    exact bodyPost_ret (v := .tuple #[.int .i64 (j : Nat), .bool true]) (by simp [results, Try.results45, go_sem]) rfl ⟨rfl, rfl⟩
end
end Go.Proofs.Ytgleoeiiiadanaa.Led
