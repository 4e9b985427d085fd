/- The reference's tally: Add, past its guards: walked. TallyPlays: what both tallies do of a vote, together. TallyPlays: walked. -/
import Derived.Test.YtdmdfpbklflijaaRTah
set_option linter.unusedVariables false
set_option linter.unusedSimpArgs false

namespace Go.Proofs.Ytdmdfpbklflijaa.Tal
open Go.RowKit Go.Sort Rd Api Own Mv App Mk Num Dig Mac

theorem step_appends_at {P : Program} {ops : Array Oper} {o : Oper} {a : Act} {Q : Exit → Act → World → Prop} {E : Prop} {K : Act → World → Prop} {α : Type} {d : Rk α} {f : α → List Value} {n : Nat} (hd : ∀ w x cs, d.K w x cs ↔ cs = f x) (hdn : d.sz = n) (hn : ∀ x, (f x).length = n) (h1 : ∀ x, ∀ u ∈ f x, u.oneCell' = true) {W : World} (hgd : o.guard = none) (s x : Operand) (t e : TypeId) (z : Value) (bytes : Nat)
    (ho : o.op = .call { callee := .builtin .append, args := #[s, x], argTypes := #[t, t] })
    (ht : P.underlying t = some (.slice e)) (hinfo : (P.info? e).map (fun i => (i.zero, i.size, i.bytes)) = some (some z, n, bytes)) (hz : z.cells.size = n) (hn0 : 0 < n)
    (v : Value) (xs ys : List α) (A : Option Addr) (m c : Nat) (hm : m = ys.length) (hs : a.eval s = v) (hx : a.eval x = .slice A m c) (hA : Row d W A ys) (hc : A = none → c = 0)
    (HO : OwnR f n W 0 e v xs) (hl : (xs.length + ys.length) * bytes ≤ 140737488355328) (hl2 : xs.length + ys.length ≤ 9223372036854775807)
    (h : ∀ v1 w1, OwnR f n w1 0 e v1 (xs ++ ys) → W.grownBy w1 v.ownBlock → (v1.ownBlock = v.ownBlock ∨ v1.ownBlock = some W.heap.size) → K (a.put o.dst v1) w1) :
    if Region.wanted o (yielded ops a.tmps) = true then Oper.wp P o a W K Q else E := by
  subst hm
  have hw : Region.wanted o (yielded ops a.tmps) = true := by simp [Region.wanted, hgd]
  rw [if_pos hw]
  obtain ⟨i0, hi, hzz⟩ := Option.map_eq_some_iff.1 hinfo
  simp only [Prod.mk.injEq] at hzz
  obtain ⟨hz0, hz1, hz2⟩ := hzz
  cases A with
  | none =>
    have hc0 := hc rfl
    subst hc0
    have hy : ys = [] := by
      cases ys with
      | nil => rfl
      | cons y r => obtain ⟨b, o, cs, hA, _⟩ := hA 0 y rfl; cases hA
    subst hy
    have hr := run_append_owned_none (P := P) (w := W) 0 t o.type e i0 n ht hi v xs.length (flat f xs) HO
    unfold Oper.wp execOp
    simp only [List.length_nil] at hx
    simp only [ho, resolve, invoke, builtin, Sem.run_bind, Sem.run_pure, Result.andThen_ok, List.map_toArray, List.map_cons, List.map_nil, hs, hx, hr]
    exact h v W (by simpa using HO) ⟨rfl, rfl, rfl, Nat.le_refl _, fun _ _ _ => rfl⟩ (.inl rfl)
  | some ad =>
    obtain ⟨v', w', hr, hown, hg, -, hb⟩ := run_append_own_at (P := P) W 0 t o.type e i0 z n bytes ht hi hz0 hz1 hz2 hz hn0 v xs.length (flat f xs) HO ad ys.length c (flat f ys) (flat_length hn ys)
      (fun j u hu => by
        have hj : j < (flat f ys).length := by
          rcases Nat.lt_or_ge j (flat f ys).length with h | h
          · exact h
          · rw [List.getElem?_eq_none h] at hu; cases hu
        rw [flat_length hn] at hj
        have hq : j / n < ys.length := Nat.div_lt_of_lt_mul (by rw [Nat.mul_comm]; exact hj)
        obtain ⟨b, o1, cs, hAd, hK, hcell⟩ := hA (j / n) ys[j / n] (List.getElem?_eq_getElem hq)
        have hr : j % n < (f ys[j / n]).length := by rw [hn]; exact Nat.mod_lt _ hn0
        have hg := flat_get hn ys (j / n) ys[j / n] (List.getElem?_eq_getElem hq) (j % n) _ (List.getElem?_eq_getElem hr)
        have hdm : j / n * n + j % n = j := by rw [Nat.mul_comm]; exact Nat.div_add_mod j n
        rw [hdm, hu] at hg
        cases Option.some.inj hAd
        have := hcell (j % n) u (by rw [(hd _ _ _).1 hK, List.getElem?_eq_getElem hr]; exact hg.symm)
        rw [hdn] at this
        rw [add_flat, show o1 + j = o1 + j / n * n + j % n by omega]
        exact this) (fun u hu => by
        obtain ⟨y, _, hy⟩ := List.mem_flatMap.1 hu
        exact h1 y u hy) (by unfold maxLen; omega) hl (by simp)
    unfold Oper.wp execOp
    simp only [ho, resolve, invoke, builtin, Sem.run_bind, Sem.run_pure, Result.andThen_ok, List.map_toArray, List.map_cons, List.map_nil, hs, hx, hr]
    exact h v' w' (by unfold OwnR; unfold flat at hown ⊢; rw [List.flatMap_append]; simpa using hown) hg hb
theorem own_emptyO (W : World) : OwnR fO 5 (W.alloc (.cells #[] 69)) 0 69 (.slice (some ⟨W.heap.size, 0, none⟩) 0 0) [] :=
  ⟨rfl, .inr ⟨W.heap.size, 0, #[], rfl, Nat.zero_le _, blk_new W _, Nat.le_refl _, by unfold maxLen; omega, rfl, rfl⟩⟩
theorem row_one {W : World} {b : Nat} {y : Vt} (h : W.heap[b]? = some (.cells #[.int .i64 y.v, .string y.b, .int .i64 y.s.f, .slice y.s.a y.s.n y.s.c, .bool false] 69 (0, 0))) : Row voK W (some ⟨b, 0, none⟩) [y] := by
  intro i x hx
  match i, hx with
  | 0, hx =>
    cases Option.some.inj hx
    exact ⟨_, 0, _, rfl, rfl, fun j u hu => by rw [show 0 + 0 * voK.sz + j = j by omega]; exact blk_at h j u (by simpa [fO] using hu)⟩
  | i + 1, hx => simp at hx
theorem own_nc {α : Type} {f : α → List Value} {n : Nat} {W : World} {base : Nat} {e : TypeId} {v : Value} {xs : List α} (h : OwnR f n W base e v xs) (A : Option Addr) (m c : Nat) (hv : v = .slice A m c) : A = none → c = 0 := by
  intro hA
  subst hA
  rcases h.2 with ⟨h1, _⟩ | ⟨g, cap, cur, h1, _⟩
  · rw [hv] at h1; simp at h1; exact h1.2
  · rw [hv] at h1; simp at h1
/-- what region 8 reads -/
def S8 (h Bx : Nat) (A : Option Addr) (k c : Nat) (y : Vt) (W : World) : Prop := W.cell? ⟨h, 4, none⟩ = some (.slice A k c) ∧ W.cell? ⟨Bx, 0, none⟩ = some (.int .i64 y.v) ∧ W.cell? ⟨Bx, 1, none⟩ = some (.string y.b) ∧ W.cell? ⟨Bx, 2, none⟩ = some (.int .i64 y.s.f) ∧ W.cell? ⟨Bx, 3, none⟩ = some (.slice y.s.a y.s.n y.s.c) ∧ W.cell? ⟨Bx, 4, none⟩ = some (.bool false)
structure R8 (h Bx : Nat) (seed : ByteArray) (tn n below : Int) (v : Value) (vs : List Vt) (y : Vt) (W : World) : Prop where
  rb : Rb h seed tn n below v vs W
  bx : W.heap[Bx]? = some (.cells #[.int .i64 y.v, .string y.b, .int .i64 y.s.f, .slice y.s.a y.s.n y.s.c, .bool false] 69 (0, 0))
theorem R8.below {h Bx : Nat} {seed : ByteArray} {tn n below : Int} {v : Value} {vs : List Vt} {y : Vt} {W W1 : World} (x : R8 h Bx seed tn n below v vs y W) (hb : RowKit.Below W.heap.size W W1) : R8 h Bx seed tn n below v vs y W1 := ⟨x.rb.below hb, blk_keep x.bx hb⟩
theorem R8.s8 {h Bx : Nat} {seed : ByteArray} {tn n below : Int} {A : Option Addr} {k c : Nat} {vs : List Vt} {y : Vt} {W : World} (x : R8 h Bx seed tn n below (.slice A k c) vs y W) : S8 h Bx A k c y W :=
  ⟨blk_at x.rb.blk 4 _ rfl, blk_at x.bx 0 _ rfl, blk_at x.bx 1 _ rfl, blk_at x.bx 2 _ rfl, blk_at x.bx 3 _ rfl, blk_at x.bx 4 _ rfl⟩
theorem below_gN {B : Nat} {w W W1 : World} {row : Option Nat} (h : RowKit.Below B w W) (hg : W.grownBy W1 row) (hB : B ≤ W.heap.size) (hr : ∀ k, row = some k → B ≤ k) : RowKit.Below B w W1 := below_grown h hg hB hr
set_option maxHeartbeats 16000000 in
set_option maxRecDepth 100000 in
theorem refadd_in (n : Nat) {h : Nat} {seed : ByteArray} {tn below : Int} {v : Value} {vs : List Vt} {w : World} (x : Rb h seed tn n below v vs w) (hsd : seed.size ≤ 35184372088832) (n1 : 1 ≤ n) (n7 : n ≤ 7) (hl : vs.length < 4 * n) (y : Vt) (h0 : 1 ≤ y.v) (h1 : y.v ≤ 1000000) (h2 : below < y.v) (h3 : y.b.size = 32) (tags : List ByteArray) (hs : Sl Rk.str w y.s.a y.s.c tags) (hm : y.s.n = tags.length) (hh : holdsF seed tn n (vtxt y.v y.b) y.s.f tags) (d : Bool) (hd : vs.any (same y) = d) (kk : Nat) (hk : (ofF (vs ++ [y]) y.v y.b).length = kk) (q : Nat) (hq : q = n - Gat.fl n) (r : Bool) (hr : (!d && decide (kk = q)) = r) (vs2 : List Vt) (hv2 : (if d then vs else vs ++ [y]) = vs2) :
    Calls Try.prog 38 #[.pointer (some ⟨h, 0, none⟩), .agg #[.int .i64 y.v, .string y.b, .int .i64 y.s.f, .slice y.s.a y.s.n y.s.c, .bool false]] w fun e w' => e = .returned (.bool r) ∧ w.grownBy w' (some h) ∧ ∃ v', Rb h seed tn n below v' vs2 w' := by
  have mixed : Try.prog.follows .mixedOrders = true := by kernel_rfl
  have hnc := own_nc x.own
  obtain ⟨A, c, rfl, hsl⟩ := own_vo x.own
  have HNC := Sd.mk (hnc A _ c rfl)
  clear hnc
  obtain ⟨k, hkv⟩ : ∃ k, k = vs.length := ⟨_, rfl⟩
  rw [← hkv] at x
  have HM := Sd.mk hkv
  have kc := Nat.le_trans hsl.le hsl.cap
  rw [← hkv] at kc hl
  have HSL := Sd.mk hsl
  have HB := Sd.mk (below_one w (.cells #[.int .i64 y.v, .string y.b, .int .i64 y.s.f, .slice y.s.a y.s.n y.s.c, .bool false] 69))
  have X1 := Sd.mk (show R8 h w.heap.size seed tn n below (.slice A k c) vs y (w.alloc (.cells #[.int .i64 y.v, .string y.b, .int .i64 y.s.f, .slice y.s.a y.s.n y.s.c, .bool false] 69)) from ⟨x.below (below_one w (.cells #[.int .i64 y.v, .string y.b, .int .i64 y.s.f, .slice y.s.a y.s.n y.s.c, .bool false] 69)), blk_new w (.cells #[.int .i64 y.v, .string y.b, .int .i64 y.s.f, .slice y.s.a y.s.n y.s.c, .bool false] 69)⟩)
  have HNE := Sd.mk (show w.heap.size ≠ h by have := blk_lt' x.blk; omega)
  have HH := Sd.mk (fun W2 (hb2 : RowKit.Below (w.alloc (.cells #[.int .i64 y.v, .string y.b, .int .i64 y.s.f, .slice y.s.a y.s.n y.s.c, .bool false] 69)).heap.size (w.alloc (.cells #[.int .i64 y.v, .string y.b, .int .i64 y.s.f, .slice y.s.a y.s.n y.s.c, .bool false] 69)) W2) => refholds_any W2 h seed hsd tn n below (.slice A k c) (blk_keep X1.out.rb.blk hb2) y (by omega) tags ((hs.below (below_one w (.cells #[.int .i64 y.v, .string y.b, .int .i64 y.s.f, .slice y.s.a y.s.n y.s.c, .bool false] 69))).below hb2) hm true ⟨fun _ => hh, fun _ => rfl⟩)
  have d5 : decide (wrap64 (4 * (n : Int)) ≤ (k : Int)) = false := decide_eq_false (by unfold wrap64; omega)
  have d0 : decide (y.v < 1) = false := decide_eq_false (by omega)
  have d1 : decide (1000000 < y.v) = false := decide_eq_false (by omega)
  have d2 : decide (y.v ≤ below) = false := decide_eq_false (by omega)
  have d3 : ((y.b.size : Int) != 32) = false := by rw [bne_eq_false_iff_eq]; omega
  have HD := Sd.mk hd
  have HR := Sd.mk hr
  have HV2 := Sd.mk hv2
  have HK := Sd.mk hk
  have HQ := Sd.mk hq
  clear hs hm h3 hh x hsl hkv hd hk hq hr hv2 h0 h1 h2
  go_enter Try.func38, Try.ntmps38
  go_upto_region 1 with (fail)
  generalize w.heap.size = Bx at X1 HNE ⊢
  generalize w.alloc _ = W1 at X1 HB HH ⊢
  have c0 := fun d os => cell_regrown (blk_at X1.out.bx 0 _ rfl) d os
  have c1 := fun d os => cell_regrown (blk_at X1.out.bx 1 _ rfl) d os
  have c2 := fun d os => cell_regrown (blk_at X1.out.bx 2 _ rfl) d os
  have c3 := fun d os => cell_regrown (blk_at X1.out.bx 3 _ rfl) d os
  have c4 := fun d os => cell_regrown (blk_at X1.out.bx 4 _ rfl) d os
  have r2 := fun d os => cell_regrown (blk_at X1.out.rb.blk 2 _ rfl) d os
  have r3 := fun d os => cell_regrown (blk_at X1.out.rb.blk 3 _ rfl) d os
  have r4 := fun d os => cell_regrown (blk_at X1.out.rb.blk 4 _ rfl) d os
  refine wp_region_quiet_below (by assumption) (by kernel_rfl) ?_
  repeat (go_big_quiet_step ((go_at_call 73; refine Calls.regrown_of (HH.out _ (below_regrown _ _ _)))))
  refine wpQuiet_nil ?_
  rintro W9 ⟨⟨nq, osq⟩, rfl⟩
  have HB9 := Sd.mk (below_then HB.out (below_regrown W1 nq osq))
  have X9 := Sd.mk (X1.out.below (below_regrown W1 nq osq))
  have HROW := Sd.mk (Row.below HSL.out.row HB9.out)
  clear c0 c1 c2 c3 c4 r2 r3 r4 HH d5 d0 d1 d2 d3 HB X1
  generalize grow (redrawn W1 nq) osq = W2 at HB9 X9 HROW ⊢
  have g4 := blk_at X9.out.rb.blk 4 _ rfl
  go_wp2
  clear g4
  go_loopg [5] k (fun gk v5 wr => ∃ (i : Nat), i + gk = k ∧ v5 = .int .i64 (i : Nat) ∧ Sd (∀ z ∈ vs.take i, same y z = false) ∧ Sd (RowKit.Below W2.heap.size W2 wr))
  case atStart => exact ⟨0, by omega, rfl, ⟨fun z hz => by simp at hz⟩, ⟨Below.refl _ _⟩⟩
  case round =>
    obtain ⟨i, hi, rfl, HA, HW⟩ := hrel
    have X3 := Sd.mk (X9.out.below HW.out)
    have g4 := blk_at X3.out.rb.blk 4 _ rfl
    by_cases hlt : i < k
    · have hii : (i : Int) < k := by omega
      obtain ⟨x, hx⟩ : ∃ x, vs[i]? = some x := ⟨vs[i]'(by rw [← HM.out]; exact hlt), List.getElem?_eq_getElem _⟩
      obtain ⟨b1, o1, rfl, p0, p1, p2, p3, p4⟩ := vo_at HROW.out hx
      have q0 := cell_below HW.out p0
      have q2 := cell_below HW.out p2
      have u0 := blk_at X3.out.bx 0 _ rfl
      have u2 := blk_at X3.out.bx 2 _ rfl
      obtain ⟨e1, he1⟩ : ∃ b, (x.v == y.v) = b := ⟨_, rfl⟩
      obtain ⟨e2, he2⟩ : ∃ b, (x.s.f == y.s.f) = b := ⟨_, rfl⟩
      have HSM := Sd.mk (show same y x = (e1 && e2) by unfold same; rw [he1, he2])
      have HT := Sd.mk (show vs.take (i + 1) = vs.take i ++ [x] by rw [List.take_add_one, hx]; rfl)
      have HX := Sd.mk (List.mem_of_getElem? hx)
      clear hx p0 p1 p2 p3 p4
      cases e1 with
      | false =>
        go_upto_region 6 with (fail)
        go_quiet (fail)
        go_wp2
        have HB8 := Sd.mk (below_drewN HW.out nq)
        go_roundg (gk - 1)
        case measure => omega
        case rel => exact ⟨i + 1, by omega, by go_num, ⟨fun z hz => by rw [HT.out] at hz; rcases List.mem_append.1 hz with e | e; exact HA.out z e; rw [List.mem_singleton] at e; subst e; exact HSM.out⟩, HB8⟩
      | true =>
        cases e2 with
        | false =>
          go_upto_region 6 with (fail)
          go_quiet (fail)
          go_wp2
          have HB8 := Sd.mk (below_drewN HW.out nq)
          go_roundg (gk - 1)
          case measure => omega
          case rel => exact ⟨i + 1, by omega, by go_num, ⟨fun z hz => by rw [HT.out] at hz; rcases List.mem_append.1 hz with e | e; exact HA.out z e; rw [List.mem_singleton] at e; subst e; exact HSM.out⟩, HB8⟩
        | true =>
          go_upto_region 6 with (fail)
          go_quiet (fail)
          go_wp2
          have HB8 := Sd.mk (below_then HB9.out (below_drewN HW.out nq))
          have X8 := Sd.mk (X9.out.below (below_drewN HW.out nq))
          obtain rfl : d = true := by rw [← HD.out, List.any_eq_true]; exact ⟨x, HX.out, HSM.out⟩
          obtain rfl := HR.out
          obtain rfl := HV2.out
          go_ret
          exact ⟨rfl, Rp.grown_below HB8.out (some h), _, X8.out.rb⟩
    · have hii : decide (i < k) = false := decide_eq_false (by omega)
      have hii2 : decide ((i : Int) < (k : Int)) = false := decide_eq_false (by omega)
      obtain rfl : d = false := by
        rw [← HD.out, Bool.eq_false_iff]
        intro e
        obtain ⟨z, hz, hzz⟩ := List.any_eq_true.1 e
        have := HA.out z (by rw [List.take_of_length_le (by rw [← HM.out]; omega)]; exact hz)
        rw [this] at hzz; cases hzz
      have X5 := Sd.mk (X3.out.below (below_drew' (Below.refl _ _)))
      have HG5 := Sd.mk (Rp.grown_below (below_drew' (below_then HB9.out HW.out)) (some h))
      have HRW := Sd.mk (Row.below HROW.out (below_drew' HW.out))
      obtain ⟨f, hf⟩ : ∃ f, f = Gat.fl n := ⟨_, rfl⟩
      have HF := Sd.mk hf
      have HFC := Sd.mk (fun W => (show Calls Try.prog 19 #[.int .i64 (n : Int)] W fun e w' => e = .returned (.int .i64 (f : Nat)) ∧ RowKit.Below W.heap.size W w' from (Gat.reffaults_any W n n1 (by omega) f hf).mono (fun e w' hq => ⟨hq.1, by rw [hq.2]; exact Below.refl _ _⟩)))
      have fn : f ≤ n := by rw [hf]; unfold Gat.fl; omega
      have hfq : (n : Int) - (f : Int) = (q : Int) := by rw [hf] at fn ⊢; rw [HQ.out]; omega
      have hr : decide (kk = q) = r := by rw [← HR.out]; rfl
      obtain rfl : vs ++ [y] = vs2 := HV2.out
      have dq : ((kk : Int) == (q : Int)) = r := by rw [← hr, Bool.eq_iff_iff, beq_iff_eq, decide_eq_true_iff]; omega
      clear HB9 HA HD X9 HROW hf hr hlt HSL HR HV2
      go_upto_region 8 with (fail)
      clear g4 X3 hii hii2
      refine Peel.region_peel (n := 12) (S := S8 h Bx A k c y) (by kernel_rfl) (by kernel_rfl) X5.out.s8 (fun hHeld => ?_)
      simp only [List.take_succ_cons, List.take_zero]
      generalize wr.drew = W5 at X5 HG5 HRW hHeld ⊢
      (refine Peel.take 0 (v := ?_) rfl rfl (by kernel_rfl) (by kernel_rfl) (by kernel_rfl) (fun _ _ _ h => h) (by assumption) ?_ ?_; rotate_left; (focus (intro w hSw; obtain ⟨s4, s0, s1, s2, s3, s5⟩ := hSw; (try dsimp only at s4 s0 s1 s2 s3 s5); (try simp only [List.getElem_toArray, List.getElem_cons_succ, List.getElem_cons_zero]); go_simp; try (with_reducible rfl))); try simp only [List.getElem_toArray, List.getElem_cons_succ, List.getElem_cons_zero, Act.put, List.setIfInBounds_toArray, List.set_cons_zero, List.set_cons_succ])
      (refine Peel.take 2 (v := ?_) rfl rfl (by kernel_rfl) (by kernel_rfl) (by kernel_rfl) (fun _ _ _ h => h) (by assumption) ?_ ?_; rotate_left; (focus (intro w hSw; obtain ⟨s4, s0, s1, s2, s3, s5⟩ := hSw; (try dsimp only at s4 s0 s1 s2 s3 s5); (try simp only [List.getElem_toArray, List.getElem_cons_succ, List.getElem_cons_zero]); go_simp; try (with_reducible rfl))); try simp only [List.getElem_toArray, List.getElem_cons_succ, List.getElem_cons_zero, Act.put, List.setIfInBounds_toArray, List.set_cons_zero, List.set_cons_succ])
      (refine Peel.take 3 (v := ?_) rfl rfl (by kernel_rfl) (by kernel_rfl) (by kernel_rfl) (fun _ _ _ h => h) (by assumption) ?_ ?_; rotate_left; (focus (intro w hSw; obtain ⟨s4, s0, s1, s2, s3, s5⟩ := hSw; (try dsimp only at s4 s0 s1 s2 s3 s5); (try simp only [List.getElem_toArray, List.getElem_cons_succ, List.getElem_cons_zero]); go_simp; try (with_reducible rfl))); try simp only [List.getElem_toArray, List.getElem_cons_succ, List.getElem_cons_zero, Act.put, List.setIfInBounds_toArray, List.set_cons_zero, List.set_cons_succ])
      (refine Peel.take 4 (v := ?_) rfl rfl (by kernel_rfl) (by kernel_rfl) (by kernel_rfl) (fun _ _ _ h => h) (by assumption) ?_ ?_; rotate_left; (focus (intro w hSw; obtain ⟨s4, s0, s1, s2, s3, s5⟩ := hSw; (try dsimp only at s4 s0 s1 s2 s3 s5); (try simp only [List.getElem_toArray, List.getElem_cons_succ, List.getElem_cons_zero]); go_simp; try (with_reducible rfl))); try simp only [List.getElem_toArray, List.getElem_cons_succ, List.getElem_cons_zero, Act.put, List.setIfInBounds_toArray, List.set_cons_zero, List.set_cons_succ])
      (refine Peel.take 5 (v := ?_) rfl rfl (by kernel_rfl) (by kernel_rfl) (by kernel_rfl) (fun _ _ _ h => h) (by assumption) ?_ ?_; rotate_left; (focus (intro w hSw; obtain ⟨s4, s0, s1, s2, s3, s5⟩ := hSw; (try dsimp only at s4 s0 s1 s2 s3 s5); (try simp only [List.getElem_toArray, List.getElem_cons_succ, List.getElem_cons_zero]); go_simp; try (with_reducible rfl))); try simp only [List.getElem_toArray, List.getElem_cons_succ, List.getElem_cons_zero, Act.put, List.setIfInBounds_toArray, List.set_cons_zero, List.set_cons_succ])
      (refine Peel.take 7 (v := ?_) rfl rfl (by kernel_rfl) (by kernel_rfl) (by kernel_rfl) (fun _ _ _ h => h) (by assumption) ?_ ?_; rotate_left; (focus (intro w hSw; obtain ⟨s4, s0, s1, s2, s3, s5⟩ := hSw; (try dsimp only at s4 s0 s1 s2 s3 s5); (try simp only [List.getElem_toArray, List.getElem_cons_succ, List.getElem_cons_zero]); go_simp; try (with_reducible rfl))); try simp only [List.getElem_toArray, List.getElem_cons_succ, List.getElem_cons_zero, Act.put, List.setIfInBounds_toArray, List.set_cons_zero, List.set_cons_succ])
      refine wpAnyH_ready (rs := [1, 8]) (by kernel_rfl) (by simp) ?_
      refine AllReadyH.cons rfl (fun K hK => ?_) (AllReadyH.cons rfl (fun K hK => ?_) AllReadyH.nil)
      · go_simp
        have X6 := Sd.mk (X5.out.below (below_one W5 (.cells #[] 69)))
        have s6 := X6.out.s8
        (refine hK.out _ _ s6 (fun hHeld => ?_); (clear hK K; try simp only [List.getElem_toArray, List.getElem_cons_succ, List.getElem_cons_zero, Act.put, List.setIfInBounds_toArray, List.set_cons_zero, List.set_cons_succ]))
        clear X6 s6
        refine wpAnyH_ready (rs := [6, 8]) (by kernel_rfl) (by simp) ?_
        refine AllReadyH.cons rfl (fun K hK => ?_) (AllReadyH.cons rfl (fun K hK => ?_) AllReadyH.nil)
        · have HBA := Sd.mk (below_one W5 (.cells #[] 69))
          have HE0 := Sd.mk (own_emptyO W5)
          (refine step_appends_at (d := voK) (f := fO) (n := 5) (fun _ _ _ => Iff.rfl) rfl (fun _ => rfl) fO_one rfl (.tmp 84) (.tmp 88) 63 69 (.agg #[.int .i64 0, .string ByteArray.empty, .int .i64 0, .slice none 0 0, .bool false]) 64 rfl Try.underlying63 info_op rfl (by decide) (.slice (some ⟨_, 0, none⟩) 0 0) [] vs A k c HM.out rfl rfl (HRW.out.below HBA.out) HNC.out HE0.out (by have := HM.out; simp only [List.length_nil]; omega) (by have := HM.out; simp only [List.length_nil]; omega) ?_; intro v1 w1 hown hg hob; rw [List.nil_append] at hown; obtain ⟨A6, q6, rfl⟩ := OwnR.slice hown; rw [← HM.out] at hown hob ⊢; have HO1 := Sd.mk hown; have HGX := Sd.mk hg; have HB1 := Sd.mk (below_gN HBA.out hg HBA.out.size (fun j e => by simp [Value.ownBlock] at e; omega)); have HQ1 := Sd.mk (show ∀ j, (Value.slice A6 k q6).ownBlock = some j → W5.heap.size ≤ j from fun j hj => by (have := HBA.out.size; rcases hob with e2 | e2; (rw [hj] at e2; simp [Value.ownBlock] at e2; omega); (rw [hj] at e2; simp at e2; omega))); clear hown hg hob)
          have X6 := Sd.mk (X5.out.below HB1.out)
          have s6 := X6.out.s8
          (refine hK.out _ _ s6 (fun hHeld => ?_); (clear hK K; try simp only [List.getElem_toArray, List.getElem_cons_succ, List.getElem_cons_zero, Act.put, List.setIfInBounds_toArray, List.set_cons_zero, List.set_cons_succ]))
          (refine wpAnyH_ready (rs := [8]) (by kernel_rfl) (by simp) ?_; refine AllReadyH.cons rfl (fun K hK => ?_) AllReadyH.nil)
          go_simp
          have HB2 := Sd.mk (below_then HB1.out (below_one w1 (.cells #[.int .i64 y.v, .string y.b, .int .i64 y.s.f, .slice y.s.a y.s.n y.s.c, .bool false] 69)))
          have HO2 := Sd.mk (HO1.out.below (below_one w1 (.cells #[.int .i64 y.v, .string y.b, .int .i64 y.s.f, .slice y.s.a y.s.n y.s.c, .bool false] 69)))
          have HY1 := Sd.mk (row_one (blk_new w1 (.cells #[.int .i64 y.v, .string y.b, .int .i64 y.s.f, .slice y.s.a y.s.n y.s.c, .bool false] 69)))
          have X6 := Sd.mk (X5.out.below HB2.out)
          have s6 := X6.out.s8
          (refine hK.out _ _ s6 (fun hHeld => ?_); (clear hK K; try simp only [List.getElem_toArray, List.getElem_cons_succ, List.getElem_cons_zero, Act.put, List.setIfInBounds_toArray, List.set_cons_zero, List.set_cons_succ]))
          clear X6 s6
          (refine wpAnyH_ready (rs := [9]) (by kernel_rfl) (by simp) ?_; refine AllReadyH.cons rfl (fun K hK => ?_) AllReadyH.nil)
          (refine step_appends_at (d := voK) (f := fO) (n := 5) (fun _ _ _ => Iff.rfl) rfl (fun _ => rfl) fO_one rfl (.tmp 89) (.tmp 91) 63 69 (.agg #[.int .i64 0, .string ByteArray.empty, .int .i64 0, .slice none 0 0, .bool false]) 64 rfl Try.underlying63 info_op rfl (by decide) (.slice A6 k q6) vs [y] _ 1 1 rfl rfl rfl HY1.out (fun e => by cases e) HO2.out (by have := HM.out; simp only [List.length_cons, List.length_nil]; omega) (by have := HM.out; simp only [List.length_cons, List.length_nil]; omega) ?_; intro v2 w2 hown hg hob; obtain ⟨A7, q7, rfl⟩ := OwnR.slice hown; have hl7 : (vs ++ [y]).length = k + 1 := (by rw [List.length_append, ← HM.out]; rfl); rw [hl7] at hown hob ⊢; have HO7 := Sd.mk hown; have HB7 := Sd.mk (below_gN HB2.out hg HB2.out.size (fun j e => HQ1.out j e)); have HL7 := Sd.mk hl7; clear hown hg hob hl7; have X7 := Sd.mk (X5.out.below HB7.out); have s7 := X7.out.s8; (refine hK.out _ _ s7 (fun hHeld => ?_); (clear hK K; try simp only [List.getElem_toArray, List.getElem_cons_succ, List.getElem_cons_zero, Act.put, List.setIfInBounds_toArray, List.set_cons_zero, List.set_cons_succ])))
          (refine Peel.take 10 (v := ?_) rfl rfl (by kernel_rfl) (by kernel_rfl) (by kernel_rfl) (fun _ _ _ h => h) (by assumption) ?_ ?_; rotate_left; (focus (intro w hSw; (try dsimp only at hSw); (try simp only [List.getElem_toArray, List.getElem_cons_succ, List.getElem_cons_zero]); go_simp; try (with_reducible rfl))); try simp only [List.getElem_toArray, List.getElem_cons_succ, List.getElem_cons_zero, Act.put, List.setIfInBounds_toArray, List.set_cons_zero, List.set_cons_succ])
          (refine Peel.take 11 (v := ?_) rfl rfl (by kernel_rfl) (by kernel_rfl) (by kernel_rfl) (fun _ _ _ h => h) (by assumption) ?_ ?_; rotate_left; (focus (intro w hSw; (try dsimp only at hSw); (try simp only [List.getElem_toArray, List.getElem_cons_succ, List.getElem_cons_zero]); go_simp; try (with_reducible rfl))); try simp only [List.getElem_toArray, List.getElem_cons_succ, List.getElem_cons_zero, Act.put, List.setIfInBounds_toArray, List.set_cons_zero, List.set_cons_succ])
          (refine wpAnyH_done (by kernel_rfl) ?_ _; simp only [Peel.Qn, List.drop_succ_cons, List.drop_zero]; clear hHeld)
          (have c7 := s7.1; have f7 := blk_frz X7.out.rb.blk 4; have HR9 := Sd.mk (rb_set4 X7.out.rb HO7.out (own_zero HO7.out)); have HG9 := Sd.mk (Rp.grown_then (Rp.grown_then HG5.out (Rp.grown_below HB7.out (some h))) (Rp.grown_set w2 h 4 (.slice A7 (k + 1) q7))); have HX9 := Sd.mk (show (w2.setCell ⟨h, 4, none⟩ (.slice A7 (k + 1) q7)).heap[Bx]? = some (.cells #[.int .i64 y.v, .string y.b, .int .i64 y.s.f, .slice y.s.a y.s.n y.s.c, .bool false] 69 (0, 0)) from (heap_set _ _ _ _ _ (HNE.out)).trans X7.out.bx); go_upto_region 9 with (fail); clear s7 c7 f7 X7 HO7 HB7)
          (generalize w2.setCell _ _ = W9 at HR9 HG9 HX9 ⊢; have c0 := fun d os => cell_regrown (blk_at HX9.out 0 _ rfl) d os; have c1 := fun d os => cell_regrown (blk_at HX9.out 1 _ rfl) d os; have r2 := fun d os => cell_regrown (blk_at HR9.out.blk 2 _ rfl) d os; refine wp_region_quiet_below (by assumption) (by kernel_rfl) ?_; repeat (go_big_quiet_step ((first | (go_at_call 39; refine Calls.regrown_of (refcount_any (HR9.out.below (below_regrown _ _ _)) y.v y.b kk HK.out)) | (go_at_call 19; refine Calls.regrown_of (HFC.out _))))))
          (refine wpQuiet_nil ?_; rintro W10 ⟨⟨nq, osq⟩, rfl⟩; have HG10 := Sd.mk (Rp.grown_then HG9.out (Rp.grown_below (below_regrown W9 nq osq) (some h))); have HR10 := Sd.mk (HR9.out.below (below_regrown W9 nq osq)); go_wp2; go_ret; exact ⟨rfl, HG10.out, _, HR10.out⟩)
        · go_simp
          have HB6 := Sd.mk (below_then (below_one W5 (.cells #[] 69)) (below_one _ (.cells #[.int .i64 y.v, .string y.b, .int .i64 y.s.f, .slice y.s.a y.s.n y.s.c, .bool false] 69)))
          have X6 := Sd.mk (X5.out.below HB6.out)
          have s6 := X6.out.s8
          (refine hK.out _ _ s6 (fun hHeld => ?_); (clear hK K; try simp only [List.getElem_toArray, List.getElem_cons_succ, List.getElem_cons_zero, Act.put, List.setIfInBounds_toArray, List.set_cons_zero, List.set_cons_succ]))
          clear X6 s6
          (refine wpAnyH_ready (rs := [6]) (by kernel_rfl) (by simp) ?_; refine AllReadyH.cons rfl (fun K hK => ?_) AllReadyH.nil)
          have HBA := HB6
          have HE0 := Sd.mk ((own_emptyO W5).below (below_one _ (.cells #[.int .i64 y.v, .string y.b, .int .i64 y.s.f, .slice y.s.a y.s.n y.s.c, .bool false] 69)))
          (refine step_appends_at (d := voK) (f := fO) (n := 5) (fun _ _ _ => Iff.rfl) rfl (fun _ => rfl) fO_one rfl (.tmp 84) (.tmp 88) 63 69 (.agg #[.int .i64 0, .string ByteArray.empty, .int .i64 0, .slice none 0 0, .bool false]) 64 rfl Try.underlying63 info_op rfl (by decide) (.slice (some ⟨_, 0, none⟩) 0 0) [] vs A k c HM.out rfl rfl (HRW.out.below HBA.out) HNC.out HE0.out (by have := HM.out; simp only [List.length_nil]; omega) (by have := HM.out; simp only [List.length_nil]; omega) ?_; intro v1 w1 hown hg hob; rw [List.nil_append] at hown; obtain ⟨A6, q6, rfl⟩ := OwnR.slice hown; rw [← HM.out] at hown hob ⊢; have HO1 := Sd.mk hown; have HGX := Sd.mk hg; have HB1 := Sd.mk (below_gN HBA.out hg HBA.out.size (fun j e => by simp [Value.ownBlock] at e; omega)); have HQ1 := Sd.mk (show ∀ j, (Value.slice A6 k q6).ownBlock = some j → W5.heap.size ≤ j from fun j hj => by (have := HBA.out.size; rcases hob with e2 | e2; (rw [hj] at e2; simp [Value.ownBlock] at e2; omega); (rw [hj] at e2; simp at e2; omega))); clear hown hg hob)
          have HB2 := HB1
          have HO2 := HO1
          have HY1 := Sd.mk (show Row voK w1 (some ⟨W5.heap.size + 1, 0, none⟩) [y] from by rw [← show (W5.alloc (.cells #[] 69)).heap.size = W5.heap.size + 1 by simp]; exact row_one (blk_grown (blk_new (W5.alloc (.cells #[] 69)) (.cells #[.int .i64 y.v, .string y.b, .int .i64 y.s.f, .slice y.s.a y.s.n y.s.c, .bool false] 69)) HGX.out (by simp [Value.ownBlock])))
          have X6 := Sd.mk (X5.out.below HB2.out)
          have s6 := X6.out.s8
          (refine hK.out _ _ s6 (fun hHeld => ?_); (clear hK K; try simp only [List.getElem_toArray, List.getElem_cons_succ, List.getElem_cons_zero, Act.put, List.setIfInBounds_toArray, List.set_cons_zero, List.set_cons_succ]))
          clear X6 s6
          (refine wpAnyH_ready (rs := [9]) (by kernel_rfl) (by simp) ?_; refine AllReadyH.cons rfl (fun K hK => ?_) AllReadyH.nil)
          (refine step_appends_at (d := voK) (f := fO) (n := 5) (fun _ _ _ => Iff.rfl) rfl (fun _ => rfl) fO_one rfl (.tmp 89) (.tmp 91) 63 69 (.agg #[.int .i64 0, .string ByteArray.empty, .int .i64 0, .slice none 0 0, .bool false]) 64 rfl Try.underlying63 info_op rfl (by decide) (.slice A6 k q6) vs [y] _ 1 1 rfl rfl rfl HY1.out (fun e => by cases e) HO2.out (by have := HM.out; simp only [List.length_cons, List.length_nil]; omega) (by have := HM.out; simp only [List.length_cons, List.length_nil]; omega) ?_; intro v2 w2 hown hg hob; obtain ⟨A7, q7, rfl⟩ := OwnR.slice hown; have hl7 : (vs ++ [y]).length = k + 1 := (by rw [List.length_append, ← HM.out]; rfl); rw [hl7] at hown hob ⊢; have HO7 := Sd.mk hown; have HB7 := Sd.mk (below_gN HB2.out hg HB2.out.size (fun j e => HQ1.out j e)); have HL7 := Sd.mk hl7; clear hown hg hob hl7; have X7 := Sd.mk (X5.out.below HB7.out); have s7 := X7.out.s8; (refine hK.out _ _ s7 (fun hHeld => ?_); (clear hK K; try simp only [List.getElem_toArray, List.getElem_cons_succ, List.getElem_cons_zero, Act.put, List.setIfInBounds_toArray, List.set_cons_zero, List.set_cons_succ])))
          (refine Peel.take 10 (v := ?_) rfl rfl (by kernel_rfl) (by kernel_rfl) (by kernel_rfl) (fun _ _ _ h => h) (by assumption) ?_ ?_; rotate_left; (focus (intro w hSw; (try dsimp only at hSw); (try simp only [List.getElem_toArray, List.getElem_cons_succ, List.getElem_cons_zero]); go_simp; try (with_reducible rfl))); try simp only [List.getElem_toArray, List.getElem_cons_succ, List.getElem_cons_zero, Act.put, List.setIfInBounds_toArray, List.set_cons_zero, List.set_cons_succ])
          (refine Peel.take 11 (v := ?_) rfl rfl (by kernel_rfl) (by kernel_rfl) (by kernel_rfl) (fun _ _ _ h => h) (by assumption) ?_ ?_; rotate_left; (focus (intro w hSw; (try dsimp only at hSw); (try simp only [List.getElem_toArray, List.getElem_cons_succ, List.getElem_cons_zero]); go_simp; try (with_reducible rfl))); try simp only [List.getElem_toArray, List.getElem_cons_succ, List.getElem_cons_zero, Act.put, List.setIfInBounds_toArray, List.set_cons_zero, List.set_cons_succ])
          (refine wpAnyH_done (by kernel_rfl) ?_ _; simp only [Peel.Qn, List.drop_succ_cons, List.drop_zero]; clear hHeld)
          (have c7 := s7.1; have f7 := blk_frz X7.out.rb.blk 4; have HR9 := Sd.mk (rb_set4 X7.out.rb HO7.out (own_zero HO7.out)); have HG9 := Sd.mk (Rp.grown_then (Rp.grown_then HG5.out (Rp.grown_below HB7.out (some h))) (Rp.grown_set w2 h 4 (.slice A7 (k + 1) q7))); have HX9 := Sd.mk (show (w2.setCell ⟨h, 4, none⟩ (.slice A7 (k + 1) q7)).heap[Bx]? = some (.cells #[.int .i64 y.v, .string y.b, .int .i64 y.s.f, .slice y.s.a y.s.n y.s.c, .bool false] 69 (0, 0)) from (heap_set _ _ _ _ _ (HNE.out)).trans X7.out.bx); go_upto_region 9 with (fail); clear s7 c7 f7 X7 HO7 HB7)
          (generalize w2.setCell _ _ = W9 at HR9 HG9 HX9 ⊢; have c0 := fun d os => cell_regrown (blk_at HX9.out 0 _ rfl) d os; have c1 := fun d os => cell_regrown (blk_at HX9.out 1 _ rfl) d os; have r2 := fun d os => cell_regrown (blk_at HR9.out.blk 2 _ rfl) d os; refine wp_region_quiet_below (by assumption) (by kernel_rfl) ?_; repeat (go_big_quiet_step ((first | (go_at_call 39; refine Calls.regrown_of (refcount_any (HR9.out.below (below_regrown _ _ _)) y.v y.b kk HK.out)) | (go_at_call 19; refine Calls.regrown_of (HFC.out _))))))
          (refine wpQuiet_nil ?_; rintro W10 ⟨⟨nq, osq⟩, rfl⟩; have HG10 := Sd.mk (Rp.grown_then HG9.out (Rp.grown_below (below_regrown W9 nq osq) (some h))); have HR10 := Sd.mk (HR9.out.below (below_regrown W9 nq osq)); go_wp2; go_ret; exact ⟨rfl, HG10.out, _, HR10.out⟩)
      · go_simp
        have X6 := Sd.mk (X5.out.below (below_one W5 (.cells #[.int .i64 y.v, .string y.b, .int .i64 y.s.f, .slice y.s.a y.s.n y.s.c, .bool false] 69)))
        have s6 := X6.out.s8
        (refine hK.out _ _ s6 (fun hHeld => ?_); (clear hK K; try simp only [List.getElem_toArray, List.getElem_cons_succ, List.getElem_cons_zero, Act.put, List.setIfInBounds_toArray, List.set_cons_zero, List.set_cons_succ]))
        clear X6 s6
        (refine wpAnyH_ready (rs := [1]) (by kernel_rfl) (by simp) ?_; refine AllReadyH.cons rfl (fun K hK => ?_) AllReadyH.nil)
        go_simp
        have HB6 := Sd.mk (below_then (below_one W5 (.cells #[.int .i64 y.v, .string y.b, .int .i64 y.s.f, .slice y.s.a y.s.n y.s.c, .bool false] 69)) (below_one _ (.cells #[] 69)))
        have X6 := Sd.mk (X5.out.below HB6.out)
        have s6 := X6.out.s8
        (refine hK.out _ _ s6 (fun hHeld => ?_); (clear hK K; try simp only [List.getElem_toArray, List.getElem_cons_succ, List.getElem_cons_zero, Act.put, List.setIfInBounds_toArray, List.set_cons_zero, List.set_cons_succ]))
        clear X6 s6
        (refine wpAnyH_ready (rs := [6]) (by kernel_rfl) (by simp) ?_; refine AllReadyH.cons rfl (fun K hK => ?_) AllReadyH.nil)
        have HBA := HB6
        have HE0 := Sd.mk (show OwnR fO 5 ((W5.alloc (.cells #[.int .i64 y.v, .string y.b, .int .i64 y.s.f, .slice y.s.a y.s.n y.s.c, .bool false] 69)).alloc (.cells #[] 69)) 0 69 (.slice (some ⟨W5.heap.size + 1, 0, none⟩) 0 0) [] from by rw [← show (W5.alloc (.cells #[.int .i64 y.v, .string y.b, .int .i64 y.s.f, .slice y.s.a y.s.n y.s.c, .bool false] 69)).heap.size = W5.heap.size + 1 by simp]; exact own_emptyO (W5.alloc (.cells #[.int .i64 y.v, .string y.b, .int .i64 y.s.f, .slice y.s.a y.s.n y.s.c, .bool false] 69)))
        (refine step_appends_at (d := voK) (f := fO) (n := 5) (fun _ _ _ => Iff.rfl) rfl (fun _ => rfl) fO_one rfl (.tmp 84) (.tmp 88) 63 69 (.agg #[.int .i64 0, .string ByteArray.empty, .int .i64 0, .slice none 0 0, .bool false]) 64 rfl Try.underlying63 info_op rfl (by decide) (.slice (some ⟨_, 0, none⟩) 0 0) [] vs A k c HM.out rfl rfl (HRW.out.below HBA.out) HNC.out HE0.out (by have := HM.out; simp only [List.length_nil]; omega) (by have := HM.out; simp only [List.length_nil]; omega) ?_; intro v1 w1 hown hg hob; rw [List.nil_append] at hown; obtain ⟨A6, q6, rfl⟩ := OwnR.slice hown; rw [← HM.out] at hown hob ⊢; have HO1 := Sd.mk hown; have HGX := Sd.mk hg; have HB1 := Sd.mk (below_gN HBA.out hg HBA.out.size (fun j e => by simp [Value.ownBlock] at e; omega)); have HQ1 := Sd.mk (show ∀ j, (Value.slice A6 k q6).ownBlock = some j → W5.heap.size ≤ j from fun j hj => by (have := HBA.out.size; rcases hob with e2 | e2; (rw [hj] at e2; simp [Value.ownBlock] at e2; omega); (rw [hj] at e2; simp at e2; omega))); clear hown hg hob)
        have HB2 := HB1
        have HO2 := HO1
        have HY1 := Sd.mk (row_one (blk_grown (blk_keep (blk_new W5 (.cells #[.int .i64 y.v, .string y.b, .int .i64 y.s.f, .slice y.s.a y.s.n y.s.c, .bool false] 69)) (below_one _ (.cells #[] 69))) HGX.out (by simp [Value.ownBlock])))
        have X6 := Sd.mk (X5.out.below HB2.out)
        have s6 := X6.out.s8
        (refine hK.out _ _ s6 (fun hHeld => ?_); (clear hK K; try simp only [List.getElem_toArray, List.getElem_cons_succ, List.getElem_cons_zero, Act.put, List.setIfInBounds_toArray, List.set_cons_zero, List.set_cons_succ]))
        clear X6 s6
        (refine wpAnyH_ready (rs := [9]) (by kernel_rfl) (by simp) ?_; refine AllReadyH.cons rfl (fun K hK => ?_) AllReadyH.nil)
        (refine step_appends_at (d := voK) (f := fO) (n := 5) (fun _ _ _ => Iff.rfl) rfl (fun _ => rfl) fO_one rfl (.tmp 89) (.tmp 91) 63 69 (.agg #[.int .i64 0, .string ByteArray.empty, .int .i64 0, .slice none 0 0, .bool false]) 64 rfl Try.underlying63 info_op rfl (by decide) (.slice A6 k q6) vs [y] _ 1 1 rfl rfl rfl HY1.out (fun e => by cases e) HO2.out (by have := HM.out; simp only [List.length_cons, List.length_nil]; omega) (by have := HM.out; simp only [List.length_cons, List.length_nil]; omega) ?_; intro v2 w2 hown hg hob; obtain ⟨A7, q7, rfl⟩ := OwnR.slice hown; have hl7 : (vs ++ [y]).length = k + 1 := (by rw [List.length_append, ← HM.out]; rfl); rw [hl7] at hown hob ⊢; have HO7 := Sd.mk hown; have HB7 := Sd.mk (below_gN HB2.out hg HB2.out.size (fun j e => HQ1.out j e)); have HL7 := Sd.mk hl7; clear hown hg hob hl7; have X7 := Sd.mk (X5.out.below HB7.out); have s7 := X7.out.s8; (refine hK.out _ _ s7 (fun hHeld => ?_); (clear hK K; try simp only [List.getElem_toArray, List.getElem_cons_succ, List.getElem_cons_zero, Act.put, List.setIfInBounds_toArray, List.set_cons_zero, List.set_cons_succ])))
        (refine Peel.take 10 (v := ?_) rfl rfl (by kernel_rfl) (by kernel_rfl) (by kernel_rfl) (fun _ _ _ h => h) (by assumption) ?_ ?_; rotate_left; (focus (intro w hSw; (try dsimp only at hSw); (try simp only [List.getElem_toArray, List.getElem_cons_succ, List.getElem_cons_zero]); go_simp; try (with_reducible rfl))); try simp only [List.getElem_toArray, List.getElem_cons_succ, List.getElem_cons_zero, Act.put, List.setIfInBounds_toArray, List.set_cons_zero, List.set_cons_succ])
        (refine Peel.take 11 (v := ?_) rfl rfl (by kernel_rfl) (by kernel_rfl) (by kernel_rfl) (fun _ _ _ h => h) (by assumption) ?_ ?_; rotate_left; (focus (intro w hSw; (try dsimp only at hSw); (try simp only [List.getElem_toArray, List.getElem_cons_succ, List.getElem_cons_zero]); go_simp; try (with_reducible rfl))); try simp only [List.getElem_toArray, List.getElem_cons_succ, List.getElem_cons_zero, Act.put, List.setIfInBounds_toArray, List.set_cons_zero, List.set_cons_succ])
        (refine wpAnyH_done (by kernel_rfl) ?_ _; simp only [Peel.Qn, List.drop_succ_cons, List.drop_zero]; clear hHeld)
        (have c7 := s7.1; have f7 := blk_frz X7.out.rb.blk 4; have HR9 := Sd.mk (rb_set4 X7.out.rb HO7.out (own_zero HO7.out)); have HG9 := Sd.mk (Rp.grown_then (Rp.grown_then HG5.out (Rp.grown_below HB7.out (some h))) (Rp.grown_set w2 h 4 (.slice A7 (k + 1) q7))); have HX9 := Sd.mk (show (w2.setCell ⟨h, 4, none⟩ (.slice A7 (k + 1) q7)).heap[Bx]? = some (.cells #[.int .i64 y.v, .string y.b, .int .i64 y.s.f, .slice y.s.a y.s.n y.s.c, .bool false] 69 (0, 0)) from (heap_set _ _ _ _ _ (HNE.out)).trans X7.out.bx); go_upto_region 9 with (fail); clear s7 c7 f7 X7 HO7 HB7)
        (generalize w2.setCell _ _ = W9 at HR9 HG9 HX9 ⊢; have c0 := fun d os => cell_regrown (blk_at HX9.out 0 _ rfl) d os; have c1 := fun d os => cell_regrown (blk_at HX9.out 1 _ rfl) d os; have r2 := fun d os => cell_regrown (blk_at HR9.out.blk 2 _ rfl) d os; refine wp_region_quiet_below (by assumption) (by kernel_rfl) ?_; repeat (go_big_quiet_step ((first | (go_at_call 39; refine Calls.regrown_of (refcount_any (HR9.out.below (below_regrown _ _ _)) y.v y.b kk HK.out)) | (go_at_call 19; refine Calls.regrown_of (HFC.out _))))))
        (refine wpQuiet_nil ?_; rintro W10 ⟨⟨nq, osq⟩, rfl⟩; have HG10 := Sd.mk (Rp.grown_then HG9.out (Rp.grown_below (below_regrown W9 nq osq) (some h))); have HR10 := Sd.mk (HR9.out.below (below_regrown W9 nq osq)); go_wp2; go_ret; exact ⟨rfl, HG10.out, _, HR10.out⟩)
end Go.Proofs.Ytdmdfpbklflijaa.Tal
set_option linter.unusedVariables false
set_option linter.unusedSimpArgs false
namespace Go.Proofs.Ytdmdfpbklflijaa.Tal
open Go.RowKit Go.Sort Rd Api Own Mv App Mk Num Dig Mac

theorem rb_len {h : Nat} {seed : ByteArray} {tn n below : Int} {v : Value} {vs : List Vt} {W : World} (x : Rb h seed tn n below v vs W) : ∃ A c, v = .slice A vs.length c := by
  obtain ⟨A, c, hv, -⟩ := own_vo x.own
  exact ⟨A, c, hv⟩
theorem refadd_miss {h : Nat} {seed : ByteArray} {tn n below : Int} {v : Value} {vs : List Vt} {w : World} (x : Rb h seed tn n below v vs w) (hsd : seed.size ≤ 35184372088832) (y : Vt) (tags : List ByteArray) (hs : Sl Rk.str w y.s.a y.s.c tags) (hm : y.s.n = tags.length) (ht : ¬ Tkn seed tn n below vs y.v y.b y.s.f tags) :
    Calls Try.prog 38 #[.pointer (some ⟨h, 0, none⟩), .agg #[.int .i64 y.v, .string y.b, .int .i64 y.s.f, .slice y.s.a y.s.n y.s.c, .bool false]] w fun e w' => e = .returned (.bool false) ∧ w.grownBy w' (some h) ∧ ∃ v', Rb h seed tn n below v' vs w' := by
  have mk : (Calls Try.prog 38 #[.pointer (some ⟨h, 0, none⟩), .agg #[.int .i64 y.v, .string y.b, .int .i64 y.s.f, .slice y.s.a y.s.n y.s.c, .bool false]] w fun e w' => e = .returned (.bool false) ∧ RowKit.Below w.heap.size w w') → Calls Try.prog 38 #[.pointer (some ⟨h, 0, none⟩), .agg #[.int .i64 y.v, .string y.b, .int .i64 y.s.f, .slice y.s.a y.s.n y.s.c, .bool false]] w fun e w' => e = .returned (.bool false) ∧ w.grownBy w' (some h) ∧ ∃ v', Rb h seed tn n below v' vs w' :=
    fun hc => hc.mono fun e w' ⟨he, hb⟩ => ⟨he, Rp.grown_below hb (some h), v, x.below hb⟩
  by_cases h0 : y.v < 1
  · exact mk (refadd_no0 w h seed tn n below v x.blk y h0)
  by_cases h1 : 1000000 < y.v
  · exact mk (refadd_no1 w h seed tn n below v x.blk y h0 h1)
  by_cases h2 : y.v ≤ below
  · exact mk (refadd_no2 w h seed tn n below v x.blk y h0 h1 h2)
  by_cases h3 : y.b.size = 32
  · obtain ⟨A, c, rfl⟩ := rb_len x
    by_cases hh : holdsF seed tn n (vtxt y.v y.b) y.s.f tags
    · by_cases h5 : wrap64 (4 * n) ≤ (vs.length : Int)
      · exact mk (refadd_no5 w h seed hsd tn n below A vs.length c x.blk y h0 h1 h2 h3 tags hs hm hh h5)
      · obtain ⟨m, hm2⟩ : ∃ m : Nat, n = (m : Int) := ⟨n.toNat, by have := hh.1; omega⟩
        subst hm2
        have hn := hh.1
        have hd : vs.any (same y) = true := by
          cases e : vs.any (same y) with
          | true => rfl
          | false => exact absurd ⟨by omega, by omega, by omega, h3, by omega, fun z hz hzz => (by rw [same_iff.2 ⟨z, hz, hzz⟩] at e; cases e), hh⟩ ht
        refine (refadd_in m x hsd (by omega) (by omega) (by unfold wrap64 at h5; omega) y (by omega) (by omega) (by omega) h3 tags hs hm hh true hd _ rfl _ rfl false rfl vs rfl).mono ?_
        exact fun e w' h => h
    · exact mk (refadd_no4 w h seed hsd tn n below A vs.length c x.blk y h0 h1 h2 h3 tags hs hm hh)
  · exact mk (refadd_no3 w h seed tn n below v x.blk y h0 h1 h2 h3)
theorem tkn_n {seed : ByteArray} {tn n below : Int} {vs : List Vt} {v f : Int} {b : ByteArray} {tags : List ByteArray} (h : Tkn seed tn n below vs v b f tags) : ∃ m : Nat, n = (m : Int) ∧ 1 ≤ m ∧ m ≤ 7 ∧ vs.length < 4 * m := by
  have h1 := h.holds.1
  have h2 := h.room
  exact ⟨n.toNat, by omega, by omega, by omega, by unfold wrap64 at h2; omega⟩
theorem tkn_any {seed : ByteArray} {tn n below : Int} {vs : List Vt} {y : Vt} {tags : List ByteArray} (h : Tkn seed tn n below vs y.v y.b y.s.f tags) : vs.any (same y) = false := by
  rw [Bool.eq_false_iff]
  intro e
  obtain ⟨x, hx, hxx⟩ := same_iff.1 e
  exact h.no x hx hxx
theorem refadd_hit {h : Nat} {seed : ByteArray} {tn below : Int} {v : Value} {vs : List Vt} {w : World} (m : Nat) (m1 : 1 ≤ m) (m7 : m ≤ 7) (x : Rb h seed tn m below v vs w) (hsd : seed.size ≤ 35184372088832) (y : Vt) (tags : List ByteArray) (hs : Sl Rk.str w y.s.a y.s.c tags) (hm : y.s.n = tags.length) (ht : Tkn seed tn m below vs y.v y.b y.s.f tags) (ok : Bool) (hok : ok = decide ((ofF (vs ++ [y]) y.v y.b).length = m - Gat.fl m)) :
    Calls Try.prog 38 #[.pointer (some ⟨h, 0, none⟩), .agg #[.int .i64 y.v, .string y.b, .int .i64 y.s.f, .slice y.s.a y.s.n y.s.c, .bool false]] w fun e w' => e = .returned (.bool ok) ∧ w.grownBy w' (some h) ∧ ∃ v', Rb h seed tn m below v' (vs ++ [y]) w' := by
  obtain ⟨k, hk, -, -, hl⟩ := tkn_n ht
  obtain rfl : k = m := by omega
  exact refadd_in k x hsd m1 m7 hl y ht.lo ht.hi ht.new ht.size tags hs hm ht.holds false (tkn_any ht) _ rfl _ rfl ok (by rw [hok]; rfl) (vs ++ [y]) rfl
/-- what the program's Add tells -/
structure Told (ok : Bool) (cv : Int) (cb : ByteArray) (A : Option Addr) (k c : Nat) (y : Vt) (vs : List Vt) : Prop where
  no : ok = false → cv = 0 ∧ cb = { data := #[] } ∧ A = none ∧ k = 0 ∧ c = 0
  yes : ok = true → cv = y.v ∧ cb = y.b ∧ k = (ofF vs y.v y.b).length
theorem of_nodup1 {vs : List Vt} (h : vs.Pairwise (fun x y => ¬ (x.v = y.v ∧ x.s.f = y.s.f))) (u : Int) (b : ByteArray) : ((ofF vs u b).map (·.f)).Nodup := by
  unfold ofF
  rw [List.map_map, List.nodup_iff_pairwise_ne, List.pairwise_map]
  refine (h.filter _).imp_of_mem ?_
  intro x y ha hb hab e
  have h1 := hit_iff.1 (List.mem_filter.1 ha).2
  have h2 := hit_iff.1 (List.mem_filter.1 hb).2
  exact hab ⟨h1.1.trans h2.1.symm, e⟩
def One (vs : List Vt) : Prop := vs.Pairwise (fun x y => ¬ (x.v = y.v ∧ x.s.f = y.s.f))
/-- both tallies' Add, one behind the other -/
theorem both_add {w : World} {g h : Nat} {seed : ByteArray} {tn n below : Int} {v v2 : Value} {vs : List Vt} {W : World} (hsd : seed.size ≤ 35184372088832) (hone : One vs) (hl : vs.length ≤ 900) (y : Vt) (tags : List ByteArray) (hs : Sl Rk.str w y.s.a y.s.c tags) (hm : y.s.n = tags.length) :
    ∃ ok vs', One vs' ∧ vs'.length ≤ vs.length + 1 ∧ (∀ (K : World → Prop) W, Tb K w g seed tn n below v vs W → Calls Try.prog 33 #[.pointer (some ⟨g, 0, none⟩), .int .i64 y.v, .string y.b, .agg #[.int .i64 y.s.f, .slice y.s.a y.s.n y.s.c]] W fun e w' => ∃ v' cv cb A' k' c', e = .returned (.tuple #[.agg #[.int .i64 cv, .string cb, .slice A' k' c'], .bool ok]) ∧ Tb K w g seed tn n below v' vs' w' ∧ Told ok cv cb A' k' c' y vs') ∧
      (∀ W, RowKit.Below w.heap.size w W → Rb h seed tn n below v2 vs W → Calls Try.prog 38 #[.pointer (some ⟨h, 0, none⟩), .agg #[.int .i64 y.v, .string y.b, .int .i64 y.s.f, .slice y.s.a y.s.n y.s.c, .bool false]] W fun e w' => e = .returned (.bool ok) ∧ W.grownBy w' (some h) ∧ ∃ v', Rb h seed tn n below v' vs' w') := by
  by_cases ht : Tkn seed tn n below vs y.v y.b y.s.f tags
  · obtain ⟨m, rfl, m1, m7, hlm⟩ := tkn_n ht
    have hone2 : One (vs ++ [y]) := by
      unfold One
      rw [List.pairwise_append]
      exact ⟨hone, List.pairwise_singleton _ _, fun a ha b hb => by rw [List.mem_singleton] at hb; subst hb; exact ht.no a ha⟩
    obtain ⟨ok, hok⟩ : ∃ ok, ok = decide ((ofF (vs ++ [y]) y.v y.b).length = m - Gat.fl m) := ⟨_, rfl⟩
    refine ⟨ok, vs ++ [y], hone2, by simp, fun K W hT => ?_, fun W hb hR => refadd_hit m m1 m7 hR hsd y tags (hs.below hb) hm ht ok hok⟩
    have htk := takes_any hT y tags hm (hs.below hT.bel) hsd true ⟨fun _ => ht, fun _ => rfl⟩
    by_cases hq : (ofF (vs ++ [y]) y.v y.b).length = m - Gat.fl m
    · obtain rfl : ok = true := by rw [hok]; exact decide_eq_true hq
      refine (add_full m m1 m7 hT hl y htk _ rfl _ rfl hq).mono ?_
      rintro e w' ⟨v', A', k', c', r, rfl, h1, h2, h3, h4⟩
      refine ⟨v', _, _, A', k', c', rfl, h4, fun e => (by cases e), fun _ => ⟨rfl, rfl, ?_⟩⟩
      rw [h1, h3.len, fst_id _ _ rfl (of_nodup1 hone2 y.v y.b), List.length_map]
    · obtain rfl : ok = false := by rw [hok]; exact decide_eq_false hq
      refine (add_few m m1 m7 hT hl y htk _ rfl _ rfl hq).mono ?_
      rintro e w' ⟨rfl, v', h4⟩
      exact ⟨v', 0, _, none, 0, 0, rfl, h4, fun _ => ⟨rfl, rfl, rfl, rfl, rfl⟩, fun e => (by cases e)⟩
  · refine ⟨false, vs, hone, by omega, fun K W hT => ?_, fun W hb hR => refadd_miss hR hsd y tags (hs.below hb) hm ht⟩
    have htk := takes_any hT y tags hm (hs.below hT.bel) hsd false ⟨fun e => (by cases e), fun e => absurd e ht⟩
    refine (add_no hT y htk).mono ?_
    rintro e w' ⟨rfl, h4⟩
    exact ⟨v, 0, _, none, 0, 0, rfl, h4, fun _ => ⟨rfl, rfl, rfl, rfl, rfl⟩, fun e => (by cases e)⟩
end Go.Proofs.Ytdmdfpbklflijaa.Tal
set_option linter.unusedVariables false
set_option linter.unusedSimpArgs false

namespace Go.Proofs.Ytdmdfpbklflijaa.Tal
open Go.RowKit Go.Sort Rd Api Own Mv App Mk Num Dig Mac

theorem new_i (w w0 : World) (h0 : RowKit.Below w0.heap.size w0 w) (tn n : Int) : Calls Try.prog 31 #[.string { data := #[115] }, .int .i64 tn, .int .i64 n] w fun e w' => ∃ g, e = .returned (.pointer (some ⟨g, 0, none⟩)) ∧ Tb (fun _ => True) w0 g SB tn n 0 (.slice none 0 0) [] w' ∧ RowKit.Below w.heap.size w w' :=
  (new_any w SB tn n).mono fun e w' ⟨g, he, ht, hg, hb⟩ => ⟨g, he, ⟨ht, by have := h0.size; omega, fun k hk => by simp [Value.ownBlock] at hk, below_then h0 hb, kp_true, trivial⟩, hb⟩
/-- a call's cells -/
def Opb (b : Nat) (cs : Array Value) (W : World) : Prop := W.heap[b]? = some (.cells cs 69 (0, 0))
theorem kp_op (b : Nat) (cs : Array Value) : Kp (Opb b cs) :=
  ⟨fun h hb => blk_keep h hb, fun {W k cs t} j u h hk ht => by
    refine (heap_set _ _ _ _ _ (fun e => ?_)).trans h
    rw [← e, h] at hk
    simp at hk
    rcases ht with e | ⟨e, -⟩ <;> rw [e] at hk <;> exact absurd hk.2 (by decide), fun {W W1 row} h hg hr => blk_grown h hg (fun e => by
    obtain ⟨cs, hk⟩ := hr b e
    rw [h] at hk; simp at hk)⟩
theorem Tb.over {K K' : World → Prop} {w : World} {g h : Nat} {seed : ByteArray} {tn n below : Int} {v : Value} {vs : List Vt} {W W1 : World} {cs : Array Value} (x : Tb K w g seed tn n below v vs W) (hg : W.grownBy W1 (some h)) (hh : w.heap.size ≤ h) (hb : W.heap[h]? = some (.cells cs 67 (0, 0))) (hK : Kp K') (hk : K' W1) : Tb K' w g seed tn n below v vs W1 :=
  ⟨⟨blk_grown x.ty.blk hg (fun e => by
      cases e
      rw [x.ty.blk] at hb
      simp at hb), OwnR.grown x.ty.own hg (by
      cases e : v.ownBlock with
      | none => exact .inl rfl
      | some k => exact .inr (fun e2 => OwnR.blk x.ty.own hb (by decide) (e.trans e2)))⟩, x.ge, x.row, below_grown x.bel hg x.bel.size (fun k hk => by cases hk; exact hh), hK, hk⟩
theorem opb_over {b h : Nat} {cs cs2 : Array Value} {W W1 : World} (x : Opb b cs W) (hg : W.grownBy W1 (some h)) (hb : W.heap[h]? = some (.cells cs2 67 (0, 0))) : Opb b cs W1 := blk_grown x hg (fun e => by
  rw [Option.some.inj e, show W.heap[b]? = _ from x] at hb
  simp at hb)
theorem crt_over {b h : Nat} {cs cs2 : Array Value} {W W1 : World} (x : W.heap[b]? = some (.cells cs 24 (0, 0))) (hg : W.grownBy W1 (some h)) (hb : W.heap[h]? = some (.cells cs2 67 (0, 0))) : W1.heap[b]? = some (.cells cs 24 (0, 0)) := blk_grown x hg (fun e => by
  cases e
  rw [x] at hb
  simp at hb)
/-- the law's state: both tallies, and the call's cells -/
structure Kb (h : Nat) (tn n below : Int) (v : Value) (vs : List Vt) (b : Nat) (cs : Array Value) (W : World) : Prop where
  rb : Rb h SB tn n below v vs W
  op : Opb b cs W
theorem kp_kb (h : Nat) (tn n below : Int) (v : Value) (vs : List Vt) (b : Nat) (cs : Array Value) : Kp (Kb h tn n below v vs b cs) :=
  have k := kp_and (kp_rb h SB tn n below v vs) (kp_op b cs)
  ⟨fun h hb => have := k.below ⟨h.rb, h.op⟩ hb; ⟨this.1, this.2⟩, fun j u h hk ht => have := k.set j u ⟨h.rb, h.op⟩ hk (ht.imp_right fun ⟨e, W0, h0, hle⟩ => ⟨e, W0, ⟨h0.rb, h0.op⟩, hle⟩); ⟨this.1, this.2⟩, fun h hg hr => have := k.grow ⟨h.rb, h.op⟩ hg hr; ⟨this.1, this.2⟩⟩
theorem opb_at {b : Nat} {cs : Array Value} {W : World} (h : Opb b cs W) {v0 v1 v2 v3 v4 : Value} (hc : cs = #[v0, v1, v2, v3, v4]) : W.cell? ⟨b, 0, none⟩ = some v0 ∧ W.cell? ⟨b, 1, none⟩ = some v1 ∧ W.cell? ⟨b, 2, none⟩ = some v2 ∧ W.cell? ⟨b, 3, none⟩ = some v3 ∧ W.cell? ⟨b, 4, none⟩ = some v4 := by
  subst hc
  exact ⟨blk_at h 0 _ rfl, blk_at h 1 _ rfl, blk_at h 2 _ rfl, blk_at h 3 _ rfl, blk_at h 4 _ rfl⟩
theorem opb_four {b : Nat} {cs : Array Value} {W : World} (h : Opb b cs W) {v0 v1 v2 v3 v4 : Value} (hc : cs = #[v0, v1, v2, v3, v4]) : W.cell? ⟨b, 0, none⟩ = some v0 ∧ W.cell? ⟨b, 1, none⟩ = some v1 ∧ W.cell? ⟨b, 2, none⟩ = some v2 ∧ W.cell? ⟨b, 3, none⟩ = some v3 := by
  obtain ⟨h0, h1, h2, h3, -⟩ := opb_at h hc
  exact ⟨h0, h1, h2, h3⟩
theorem opb_box {b : Nat} {cs : Array Value} {W W1 : World} (h : Opb b cs W) (hb : RowKit.Below W.heap.size W W1) : Opb b cs W1 := blk_keep h hb
theorem opb_set {b k : Nat} {cs : Array Value} {W : World} (h : Opb b cs W) (hne : b ≠ k) {j : Nat} {u : Value} : Opb b cs (W.setCell ⟨k, j, none⟩ u) := (heap_set _ _ _ _ _ hne).trans h
theorem s13 {b b2 : Nat} {cs : Array Value} {W : World} (h : Opb b cs W) {v0 v1 v2 v3 v4 u0 u1 u2 : Value} (hc : cs = #[v0, v1, v2, v3, v4]) (h2 : W.heap[b2]? = some (.cells #[u0, u1, u2] 24 (0, 0))) : W.cell? ⟨b, 0, none⟩ = some v0 ∧ W.cell? ⟨b, 1, none⟩ = some v1 ∧ W.cell? ⟨b, 2, none⟩ = some v2 ∧ W.cell? ⟨b, 3, none⟩ = some v3 ∧ W.cell? ⟨b, 4, none⟩ = some v4 ∧ W.cell? ⟨b2, 0, none⟩ = some u0 ∧ W.cell? ⟨b2, 1, none⟩ = some u1 ∧ W.cell? ⟨b2, 2, none⟩ = some u2 := by
  obtain ⟨h0, h1, h3, h4, h5⟩ := opb_at h hc
  exact ⟨h0, h1, h3, h4, h5, blk_at h2 0 _ rfl, blk_at h2 1 _ rfl, blk_at h2 2 _ rfl⟩
theorem one_filter {vs : List Vt} (h : One vs) (p : Vt → Bool) : One (vs.filter p) := h.filter p
set_option maxHeartbeats 16000000 in
set_option maxRecDepth 100000 in
theorem tp_law (w : World) (tn n : Int) (A : Option Addr) (c : Nat) (l : List Co) (hs : Sl coK w A c l) (len : Nat) (hlen : len = l.length) :
    Calls Try.prog 9 #[.agg #[.int .i64 tn, .int .i64 n], .slice A len c] w fun e w' => e = .returned (.bool true) ∧ RowKit.Below w.heap.size w w' := by
  have mixed : Try.prog.follows .mixedOrders = true := by kernel_rfl
  have hb0 := below_one w (.cells #[.int .i64 tn, .int .i64 n] 25)
  have HB := Sd.mk hb0
  have X0 := Sd.mk (blk_new w (.cells #[.int .i64 tn, .int .i64 n] 25))
  have HS := Sd.mk hs
  have lc := Nat.le_trans hs.le hs.cap
  rw [← hlen] at lc
  have HN := Sd.mk hlen
  have HFW := Sd.mk (fun W (h : RowKit.Below w.heap.size w W) => few_any W A c l (hs.below h) len hlen)
  clear hs hlen hb0
  have HSB := Sd.mk (show SB.size ≤ 35184372088832 by decide)
  go_enter Try.func9, Try.ntmps9
  go_upto_region 1 with (fail)
  generalize w.heap.size = B2 at X0 ⊢
  generalize w.alloc _ = W1 at X0 HB ⊢
  go_upto_region 4 with (first
    | (go_at_call 30; (with_reducible refine (awake_any _).mono ?_); rintro e w2 ⟨rfl, hb⟩; (first | (have HB4 := Sd.mk (below_then HB3.out hb)) | (have HB2 := Sd.mk (below_then HB.out hb); have X2 := Sd.mk (blk_keep X0.out hb))); clear hb)
    | (go_at_call 35; (with_reducible refine (HFW.out _ HB2.out).mono ?_); rintro e w3 ⟨r, rfl, ht, hb⟩; have HB3 := Sd.mk (below_then HB2.out hb); have X3 := Sd.mk (blk_keep X2.out hb); have c0 := blk_at X3.out 0 _ rfl; have c1 := blk_at X3.out 1 _ rfl; have HTR := Sd.mk ht; clear ht hb; cases r)
    | (go_at_call 31; (with_reducible refine (new_i _ w HB3.out tn n).mono ?_); rintro e w1 ⟨g, rfl, ht, hb1⟩; have HT1 := Sd.mk ht; have X4 := Sd.mk (blk_keep X3.out hb1); have c0 := blk_at X4.out 0 _ rfl; have c1 := blk_at X4.out 1 _ rfl; clear ht hb1))
  · go_ret
    exact ⟨rfl, HB4.out⟩
  · have l50 := (HTR.out trivial).1
    go_upto_region 5 with (fail)
    have HT2 := Sd.mk ((HT1.out.below (below_one w1 (.cells #[.string { data := #[115] }, .int .i64 tn, .int .i64 n, .int .i64 0, .slice none 0 0] 67))).re (kp_rb w1.heap.size SB tn n 0 (.slice none 0 0) []) ⟨blk_new w1 _, OwnR.nil _ _ _ _ _⟩)
    have hge : w.heap.size ≤ w1.heap.size := HT1.out.bel.size
    clear HTR X4 X3 X2 X0 HB3 HB2 HB c0 c1 HFW HT1
    generalize hB3 : w1.heap.size = h at HT2 hge ⊢
    generalize w1.alloc _ = W2 at HT2 ⊢
    clear hB3
    have HGE := Sd.mk hge
    clear hge
    go_wp2
    go_loopg [7, 8, 9, 10] len (fun gk v7 v8 v9 v10 wr => ∃ (i : Nat) (vs : List Vt) (v v2 : Value) (lim : Int), i + gk = len ∧ v7 = .int .i64 (i : Nat) ∧ Sd (One vs ∧ vs.length ≤ i) ∧ Sd (Tb (Rb h SB tn n lim v2 vs) w g SB tn n lim v vs wr))
    case atStart => exact ⟨0, [], _, _, 0, by omega, rfl, ⟨List.Pairwise.nil, Nat.le_refl _⟩, HT2⟩
    case round =>
      clear HT2
      obtain ⟨i, vs, v, v2, lim, hi, rfl, HI, HT⟩ := hrel
      by_cases hlt : i < len
      · have hii : (i : Int) < len := by omega
        obtain ⟨x, hx⟩ : ∃ x, l[i]? = some x := ⟨_, List.getElem?_eq_getElem (show i < l.length by rw [← HN.out]; exact hlt)⟩
        obtain ⟨b1, o1, A1, c1, rfl, y0, y1, y2, y3, y4, -, -, s1⟩ := co_at HS.out hx
        obtain ⟨m, hm⟩ : ∃ m, x.sig.tags.length = m := ⟨_, rfl⟩
        rw [hm] at y3
        obtain ⟨bl, hbl⟩ : ∃ b, x.below = b := ⟨_, rfl⟩
        rw [hbl] at y4
        have z0 := cell_below HT.out.bel y0
        have z1 := cell_below HT.out.bel y1
        have z2 := cell_below HT.out.bel y2
        have z3 := cell_below HT.out.bel y3
        have z4 := cell_below HT.out.bel y4
        obtain ⟨cs0, hcs⟩ : ∃ cs : Array Value, cs = #[.int .i64 x.view, .string x.block, .int .i64 x.sig.node, .slice A1 m c1, .bool bl] := ⟨_, rfl⟩
        have HCS := Sd.mk hcs
        have HT1 := Sd.mk ((HT.out.below (below_one wr (.cells #[.int .i64 x.view, .string x.block, .int .i64 x.sig.node, .slice A1 m c1, .bool bl] 69))).re (kp_kb h tn n lim v2 vs wr.heap.size cs0) ⟨(HT.out.below (below_one wr (.cells #[.int .i64 x.view, .string x.block, .int .i64 x.sig.node, .slice A1 m c1, .bool bl] 69))).k, by rw [hcs]; exact blk_new wr _⟩)
        obtain ⟨vy, hvy⟩ : ∃ y : Vt, y = ⟨x.view, x.block, ⟨x.sig.node, A1, m, c1⟩⟩ := ⟨_, rfl⟩
        have HBA := Sd.mk (both_add (w := w) (g := g) (h := h) (seed := SB) (tn := tn) (n := n) (below := lim) (v := v) (v2 := v2) (vs := vs) (W := w) HSB.out HI.out.1 (by have := HI.out.2; omega) (⟨x.view, x.block, ⟨x.sig.node, A1, m, c1⟩⟩ : Vt) x.sig.tags s1 hm.symm)
        clear hbl hx s1 y0 y1 y2 y3 y4 hm hcs hvy
        go_upto_region 9 with (fail)
        clear z0 z1 z2 z3 z4 HT
        generalize wr.heap.size = Bo at HT1 ⊢
        generalize wr.alloc _ = W3 at HT1 ⊢
        cases bl with
        | true =>
          clear HBA
          obtain ⟨lim2, hl2⟩ : ∃ z, max lim x.view = z := ⟨_, rfl⟩
          have HBW := Sd.mk (below_any HT1.out x.view lim2 hl2)
          have HRW := Sd.mk (fun W (hr : Rb h SB tn n lim v2 vs W) => refbelow_any hr (by have := HI.out.2; omega) x.view lim2 hl2)
          have HI3 := Sd.mk (show One (vs.filter (fun x => !old lim2 x)) ∧ (vs.filter (fun x => !old lim2 x)).length ≤ i + 1 from ⟨one_filter HI.out.1 _, by have := HI.out.2; have := List.length_filter_le (fun x => !old lim2 x) vs; omega⟩)
          obtain ⟨o0, o1, o2, o3, o4⟩ := opb_at HT1.out.k.op HCS.out
          clear hl2
          go_upto_region 15 with (first
            | (go_at_call 36; (with_reducible refine HBW.out.mono ?_); rintro e w2 ⟨rfl, v', ht⟩; have HT2 := Sd.mk ht; obtain ⟨o0, o1, o2, o3, o4⟩ := opb_at HT2.out.k.op HCS.out; clear ht)
            | (go_at_call 37; ((with_reducible refine (HRW.out _ HT2.out.k.rb).mono ?_); rintro e w3 ⟨rfl, hg, v9, hr⟩; have HT3 := Sd.mk (HT2.out.over hg HGE.out HT2.out.k.rb.blk (kp_kb h tn n lim2 v9 _ Bo cs0) ⟨hr, opb_over HT2.out.k.op hg HT2.out.k.rb.blk⟩); clear hg hr)))
          clear HBW HRW HT1 HT2 HI o0 o1 o2 o3 o4
          generalize vs.filter _ = vs3 at HT3 HI3
          (obtain ⟨A9, c9, rfl⟩ := rb_len HT3.out.k.rb; obtain ⟨k9, hk9⟩ : ∃ k, vs3.length = k := ⟨_, rfl⟩; rw [hk9] at HT3; obtain ⟨kk, hkk⟩ : ∃ k, (ofF vs3 x.view x.block).length = k := ⟨_, rfl⟩; have l900 : vs3.length ≤ 900 := (by have := HI3.out.2; omega); have HLN := Sd.mk (fun Wi (hb : RowKit.Below w3.heap.size w3 Wi) => show Calls Try.prog 34 #[.pointer (some ⟨g, 0, none⟩)] Wi fun e w' => e = .returned (.int .i64 (k9 : Nat)) ∧ RowKit.Below Wi.heap.size Wi w' from (len_any (HT3.out.below hb).ty k9 hk9).mono (fun e w' hq => ⟨hq.1, by rw [hq.2]; exact Below.refl _ _⟩)); have HCN := Sd.mk (fun Wi (hb : RowKit.Below w3.heap.size w3 Wi) => count_any (HT3.out.below hb).ty (by omega) x.view x.block kk hkk); have HRC := Sd.mk (fun Wi (hb : RowKit.Below w3.heap.size w3 Wi) => refcount_any (HT3.out.below hb).k.rb x.view x.block kk hkk); clear hk9 hkk l900; obtain ⟨p0, p1, p2, p3, p4⟩ := opb_at HT3.out.k.op HCS.out; have p5 := blk_at HT3.out.k.rb.blk 4 _ rfl; have o0 := fun d os => cell_regrown p0 d os; have o1 := fun d os => cell_regrown p1 d os; have o5 := fun d os => cell_regrown p5 d os; clear p0 p1 p2 p3 p4 p5)
          (refine wp_region_quiet_below (by assumption) (by kernel_rfl) ?_; repeat (go_big_quiet_step ((first | (go_at_call 34; refine Calls.regrown_of (HLN.out _ (below_regrown _ _ _))) | (go_at_call 41; refine Calls.regrown_of (HCN.out _ (below_regrown _ _ _))) | (go_at_call 39; refine Calls.regrown_of (HRC.out _ (below_regrown _ _ _)))))))
          (refine wpQuiet_nil ?_; rintro W10 ⟨⟨nq, osq⟩, rfl⟩; have HT9 := Sd.mk (HT3.out.below (below_regrown w3 nq osq)); clear HLN HCN HRC o0 o1 o5; go_wp2)
          go_roundg (gk - 1)
          case measure => omega
          case rel => exact ⟨i + 1, vs3, _, _, _, by omega, by go_num, HI3, ⟨HT9.out.re (kp_rb _ _ _ _ _ _ _) HT9.out.k.rb⟩⟩
        | false =>
          obtain ⟨ok, vs3, hone, hlen3, HPA0, HRA0⟩ := HBA.out
          have HPA := Sd.mk HPA0
          have HRA := Sd.mk HRA0
          have HI3 := Sd.mk (show One vs3 ∧ vs3.length ≤ i + 1 from ⟨hone, by have := HI.out.2; omega⟩)
          clear HPA0 HRA0 hone hlen3 HBA HI
          have HNB := Sd.mk (show Bo ≠ W3.heap.size by have := blk_lt' HT1.out.k.op; omega)
          obtain ⟨o0, o1, o2, o3, o4⟩ := opb_at HT1.out.k.op HCS.out
          go_upto_region 12 with (fail)
          clear o0 o1 o2 o3 o4
          obtain ⟨o0, o1, o2, o3, o4⟩ := opb_at HT1.out.k.op HCS.out
          go_upto_region 13 with (first
            | (go_at_call 33; with_reducible refine (HPA.out _ _ HT1.out).mono ?_; rintro er w6 ⟨v', cv, cb, A', k', c', rfl, htb, htd⟩; have HT6 := Sd.mk (htb.below (below_one w6 (.cells #[.int .i64 cv, .string cb, .slice A' k' c'] 24))); have HX6 := Sd.mk (blk_new w6 (.cells #[.int .i64 cv, .string cb, .slice A' k' c'] 24)); have HG := Sd.mk htd; clear htb htd))
          generalize w6.heap.size = Bx at HX6 ⊢
          generalize w6.alloc _ = W6 at HX6 HT6 ⊢
          clear HPA HT1 HNB o0 o1 o2 o3 o4
          have HTD := Sd.mk (HT6.out.below (below_drew' (Below.refl _ _)))
          have HXD := Sd.mk (blk_keep HX6.out (below_drew' (Below.refl _ _)))
          have S0 := s13 HTD.out.k.op HCS.out HXD.out
          cases ok with
          | false =>
            obtain ⟨rfl, rfl, rfl, rfl, rfl⟩ := HG.out.no rfl
            clear HG
            refine wp_region_held_drew (S := (fun W => W.cell? ⟨Bo, 0, none⟩ = some (.int .i64 x.view) ∧ W.cell? ⟨Bo, 1, none⟩ = some (.string x.block) ∧ W.cell? ⟨Bo, 2, none⟩ = some (.int .i64 x.sig.node) ∧ W.cell? ⟨Bo, 3, none⟩ = some (.slice A1 m c1) ∧ W.cell? ⟨Bo, 4, none⟩ = some (.bool false) ∧ W.cell? ⟨Bx, 0, none⟩ = some (.int .i64 0) ∧ W.cell? ⟨Bx, 1, none⟩ = some (.string { data := #[] }) ∧ W.cell? ⟨Bx, 2, none⟩ = some (.slice none 0 0))) (by kernel_rfl) S0 (fun hHeld => ?_)
            simp only [List.size_toArray, List.length_cons, List.length_nil]
            (refine wpAnyH_take (i := 0) (v := ?_) rfl (by kernel_rfl) (by kernel_rfl) (by kernel_rfl) (fun _ _ _ h => h) (.inl ⟨by rfl, ?_⟩) (by assumption) ?_; rotate_left; (focus (intro w hSw; obtain ⟨s0, s1, s2, s3, s4, s5, s6, s7⟩ := hSw; (try dsimp only at s0 s1 s2 s3 s4 s5 s6 s7); (try simp only [List.getElem_toArray, List.getElem_cons_succ, List.getElem_cons_zero]); go_simp; try (with_reducible rfl))); try simp only [List.getElem_toArray, List.getElem_cons_succ, List.getElem_cons_zero, Act.put, List.setIfInBounds_toArray, List.set_cons_zero, List.set_cons_succ])
            (refine wpAnyH_take (i := 1) (v := ?_) rfl (by kernel_rfl) (by kernel_rfl) (by kernel_rfl) (fun _ _ _ h => h) (.inl ⟨by rfl, ?_⟩) (by assumption) ?_; rotate_left; (focus (intro w hSw; obtain ⟨s0, s1, s2, s3, s4, s5, s6, s7⟩ := hSw; (try dsimp only at s0 s1 s2 s3 s4 s5 s6 s7); (try simp only [List.getElem_toArray, List.getElem_cons_succ, List.getElem_cons_zero]); go_simp; try (with_reducible rfl))); try simp only [List.getElem_toArray, List.getElem_cons_succ, List.getElem_cons_zero, Act.put, List.setIfInBounds_toArray, List.set_cons_zero, List.set_cons_succ])
            (refine wpAnyH_take (i := 2) (v := ?_) rfl (by kernel_rfl) (by kernel_rfl) (by kernel_rfl) (fun _ _ _ h => h) (.inl ⟨by rfl, ?_⟩) (by assumption) ?_; rotate_left; (focus (intro w hSw; obtain ⟨s0, s1, s2, s3, s4, s5, s6, s7⟩ := hSw; (try dsimp only at s0 s1 s2 s3 s4 s5 s6 s7); (try simp only [List.getElem_toArray, List.getElem_cons_succ, List.getElem_cons_zero]); go_simp; try (with_reducible rfl))); try simp only [List.getElem_toArray, List.getElem_cons_succ, List.getElem_cons_zero, Act.put, List.setIfInBounds_toArray, List.set_cons_zero, List.set_cons_succ])
            (refine wpAnyH_ready (rs := [3]) (by kernel_rfl) (by simp) ?_; refine AllReadyH.cons rfl (fun K hK => ?_) AllReadyH.nil)
            go_simp
            (go_at_call 38; with_reducible refine (HRA.out _ HTD.out.bel HTD.out.k.rb).mono ?_; rintro er w7 ⟨rfl, hg, v9, hr⟩; have HT7 := Sd.mk (HTD.out.over hg HGE.out HTD.out.k.rb.blk (kp_kb h tn n lim v9 vs3 Bo cs0) ⟨hr, opb_over HTD.out.k.op hg HTD.out.k.rb.blk⟩); have HX7 := Sd.mk (crt_over HXD.out hg HTD.out.k.rb.blk); clear hg hr; have S7 := s13 HT7.out.k.op HCS.out HX7.out)
            (refine hK.out _ _ S7 (fun hHeld => ?_); (clear hK K; try simp only [List.getElem_toArray, List.getElem_cons_succ, List.getElem_cons_zero, Act.put, List.setIfInBounds_toArray, List.set_cons_zero, List.set_cons_succ]))
            clear S7
            (refine wpAnyH_take (i := 4) (v := ?_) rfl (by kernel_rfl) (by kernel_rfl) (by kernel_rfl) (fun _ _ _ h => h) (.inl ⟨by rfl, ?_⟩) (by assumption) ?_; rotate_left; (focus (intro w hSw; obtain ⟨s0, s1, s2, s3, s4, s5, s6, s7⟩ := hSw; (try dsimp only at s0 s1 s2 s3 s4 s5 s6 s7); (try simp only [List.getElem_toArray, List.getElem_cons_succ, List.getElem_cons_zero]); go_simp; try (with_reducible rfl))); try simp only [List.getElem_toArray, List.getElem_cons_succ, List.getElem_cons_zero, Act.put, List.setIfInBounds_toArray, List.set_cons_zero, List.set_cons_succ])
            (refine wpAnyH_take (i := 5) (v := ?_) rfl (by kernel_rfl) (by kernel_rfl) (by kernel_rfl) (fun _ _ _ h => h) (.inl ⟨by rfl, ?_⟩) (by assumption) ?_; rotate_left; (focus (intro w hSw; obtain ⟨s0, s1, s2, s3, s4, s5, s6, s7⟩ := hSw; (try dsimp only at s0 s1 s2 s3 s4 s5 s6 s7); (try simp only [List.getElem_toArray, List.getElem_cons_succ, List.getElem_cons_zero]); go_simp; try (with_reducible rfl))); try simp only [List.getElem_toArray, List.getElem_cons_succ, List.getElem_cons_zero, Act.put, List.setIfInBounds_toArray, List.set_cons_zero, List.set_cons_succ])
            (refine wpAnyH_take (i := 6) (v := ?_) rfl (by kernel_rfl) (by kernel_rfl) (by kernel_rfl) (fun _ _ _ h => h) (.inl ⟨by rfl, ?_⟩) (by assumption) ?_; rotate_left; (focus (intro w hSw; obtain ⟨s0, s1, s2, s3, s4, s5, s6, s7⟩ := hSw; (try dsimp only at s0 s1 s2 s3 s4 s5 s6 s7); (try simp only [List.getElem_toArray, List.getElem_cons_succ, List.getElem_cons_zero]); go_simp; try (with_reducible rfl))); try simp only [List.getElem_toArray, List.getElem_cons_succ, List.getElem_cons_zero, Act.put, List.setIfInBounds_toArray, List.set_cons_zero, List.set_cons_succ])
            (refine wpAnyH_take (i := 7) (v := ?_) rfl (by kernel_rfl) (by kernel_rfl) (by kernel_rfl) (fun _ _ _ h => h) (.inl ⟨by rfl, ?_⟩) (by assumption) ?_; rotate_left; (focus (intro w hSw; obtain ⟨s0, s1, s2, s3, s4, s5, s6, s7⟩ := hSw; (try dsimp only at s0 s1 s2 s3 s4 s5 s6 s7); (try simp only [List.getElem_toArray, List.getElem_cons_succ, List.getElem_cons_zero]); go_simp; try (with_reducible rfl))); try simp only [List.getElem_toArray, List.getElem_cons_succ, List.getElem_cons_zero, Act.put, List.setIfInBounds_toArray, List.set_cons_zero, List.set_cons_succ])
            (refine wpAnyH_take (i := 8) (v := undef) rfl (by kernel_rfl) (by kernel_rfl) (by kernel_rfl) (fun _ _ _ h => h) (.inr ⟨by rfl, rfl⟩) (by assumption) ?_; try simp only [List.getElem_toArray, List.getElem_cons_succ, List.getElem_cons_zero, Act.put, List.setIfInBounds_toArray, List.set_cons_zero, List.set_cons_succ])
            (refine wpAnyH_take (i := 9) (v := undef) rfl (by kernel_rfl) (by kernel_rfl) (by kernel_rfl) (fun _ _ _ h => h) (.inr ⟨by rfl, rfl⟩) (by assumption) ?_; try simp only [List.getElem_toArray, List.getElem_cons_succ, List.getElem_cons_zero, Act.put, List.setIfInBounds_toArray, List.set_cons_zero, List.set_cons_succ])
            (refine wpAnyH_take (i := 10) (v := undef) rfl (by kernel_rfl) (by kernel_rfl) (by kernel_rfl) (fun _ _ _ h => h) (.inr ⟨by rfl, rfl⟩) (by assumption) ?_; try simp only [List.getElem_toArray, List.getElem_cons_succ, List.getElem_cons_zero, Act.put, List.setIfInBounds_toArray, List.set_cons_zero, List.set_cons_succ])
            (refine wpAnyH_take (i := 11) (v := undef) rfl (by kernel_rfl) (by kernel_rfl) (by kernel_rfl) (fun _ _ _ h => h) (.inr ⟨by rfl, rfl⟩) (by assumption) ?_; try simp only [List.getElem_toArray, List.getElem_cons_succ, List.getElem_cons_zero, Act.put, List.setIfInBounds_toArray, List.set_cons_zero, List.set_cons_succ])
            (refine wpAnyH_take (i := 12) (v := undef) rfl (by kernel_rfl) (by kernel_rfl) (by kernel_rfl) (fun _ _ _ h => h) (.inr ⟨by rfl, rfl⟩) (by assumption) ?_; try simp only [List.getElem_toArray, List.getElem_cons_succ, List.getElem_cons_zero, Act.put, List.setIfInBounds_toArray, List.set_cons_zero, List.set_cons_succ])
            (refine wpAnyH_take (i := 13) (v := undef) rfl (by kernel_rfl) (by kernel_rfl) (by kernel_rfl) (fun _ _ _ h => h) (.inr ⟨by rfl, rfl⟩) (by assumption) ?_; try simp only [List.getElem_toArray, List.getElem_cons_succ, List.getElem_cons_zero, Act.put, List.setIfInBounds_toArray, List.set_cons_zero, List.set_cons_succ])
            (refine wpAnyH_take (i := 14) (v := undef) rfl (by kernel_rfl) (by kernel_rfl) (by kernel_rfl) (fun _ _ _ h => h) (.inr ⟨by rfl, rfl⟩) (by assumption) ?_; try simp only [List.getElem_toArray, List.getElem_cons_succ, List.getElem_cons_zero, Act.put, List.setIfInBounds_toArray, List.set_cons_zero, List.set_cons_succ])
            (refine wpAnyH_take (i := 15) (v := undef) rfl (by kernel_rfl) (by kernel_rfl) (by kernel_rfl) (fun _ _ _ h => h) (.inr ⟨by rfl, rfl⟩) (by assumption) ?_; try simp only [List.getElem_toArray, List.getElem_cons_succ, List.getElem_cons_zero, Act.put, List.setIfInBounds_toArray, List.set_cons_zero, List.set_cons_succ])
            (refine wpAnyH_take (i := 16) (v := undef) rfl (by kernel_rfl) (by kernel_rfl) (by kernel_rfl) (fun _ _ _ h => h) (.inr ⟨by rfl, rfl⟩) (by assumption) ?_; try simp only [List.getElem_toArray, List.getElem_cons_succ, List.getElem_cons_zero, Act.put, List.setIfInBounds_toArray, List.set_cons_zero, List.set_cons_succ])
            (refine wpAnyH_take (i := 17) (v := undef) rfl (by kernel_rfl) (by kernel_rfl) (by kernel_rfl) (fun _ _ _ h => h) (.inr ⟨by rfl, rfl⟩) (by assumption) ?_; try simp only [List.getElem_toArray, List.getElem_cons_succ, List.getElem_cons_zero, Act.put, List.setIfInBounds_toArray, List.set_cons_zero, List.set_cons_succ])
            (refine wpAnyH_take (i := 18) (v := undef) rfl (by kernel_rfl) (by kernel_rfl) (by kernel_rfl) (fun _ _ _ h => h) (.inr ⟨by rfl, rfl⟩) (by assumption) ?_; try simp only [List.getElem_toArray, List.getElem_cons_succ, List.getElem_cons_zero, Act.put, List.setIfInBounds_toArray, List.set_cons_zero, List.set_cons_succ])
            (refine wpAnyH_take (i := 19) (v := undef) rfl (by kernel_rfl) (by kernel_rfl) (by kernel_rfl) (fun _ _ _ h => h) (.inr ⟨by rfl, rfl⟩) (by assumption) ?_; try simp only [List.getElem_toArray, List.getElem_cons_succ, List.getElem_cons_zero, Act.put, List.setIfInBounds_toArray, List.set_cons_zero, List.set_cons_succ])
            (refine wpAnyH_take (i := 20) (v := undef) rfl (by kernel_rfl) (by kernel_rfl) (by kernel_rfl) (fun _ _ _ h => h) (.inr ⟨by rfl, rfl⟩) (by assumption) ?_; try simp only [List.getElem_toArray, List.getElem_cons_succ, List.getElem_cons_zero, Act.put, List.setIfInBounds_toArray, List.set_cons_zero, List.set_cons_succ])
            (refine wpAnyH_take (i := 21) (v := undef) rfl (by kernel_rfl) (by kernel_rfl) (by kernel_rfl) (fun _ _ _ h => h) (.inr ⟨by rfl, rfl⟩) (by assumption) ?_; try simp only [List.getElem_toArray, List.getElem_cons_succ, List.getElem_cons_zero, Act.put, List.setIfInBounds_toArray, List.set_cons_zero, List.set_cons_succ])
            (refine wpAnyH_take (i := 22) (v := undef) rfl (by kernel_rfl) (by kernel_rfl) (by kernel_rfl) (fun _ _ _ h => h) (.inr ⟨by rfl, rfl⟩) (by assumption) ?_; try simp only [List.getElem_toArray, List.getElem_cons_succ, List.getElem_cons_zero, Act.put, List.setIfInBounds_toArray, List.set_cons_zero, List.set_cons_succ])
            (refine wpAnyH_take (i := 23) (v := undef) rfl (by kernel_rfl) (by kernel_rfl) (by kernel_rfl) (fun _ _ _ h => h) (.inr ⟨by rfl, rfl⟩) (by assumption) ?_; try simp only [List.getElem_toArray, List.getElem_cons_succ, List.getElem_cons_zero, Act.put, List.setIfInBounds_toArray, List.set_cons_zero, List.set_cons_succ])
            (refine wpAnyH_take (i := 24) (v := undef) rfl (by kernel_rfl) (by kernel_rfl) (by kernel_rfl) (fun _ _ _ h => h) (.inr ⟨by rfl, rfl⟩) (by assumption) ?_; try simp only [List.getElem_toArray, List.getElem_cons_succ, List.getElem_cons_zero, Act.put, List.setIfInBounds_toArray, List.set_cons_zero, List.set_cons_succ])
            (refine wpAnyH_take (i := 25) (v := undef) rfl (by kernel_rfl) (by kernel_rfl) (by kernel_rfl) (fun _ _ _ h => h) (.inr ⟨by rfl, rfl⟩) (by assumption) ?_; try simp only [List.getElem_toArray, List.getElem_cons_succ, List.getElem_cons_zero, Act.put, List.setIfInBounds_toArray, List.set_cons_zero, List.set_cons_succ])
            (refine wpAnyH_take (i := 26) (v := undef) rfl (by kernel_rfl) (by kernel_rfl) (by kernel_rfl) (fun _ _ _ h => h) (.inr ⟨by rfl, rfl⟩) (by assumption) ?_; try simp only [List.getElem_toArray, List.getElem_cons_succ, List.getElem_cons_zero, Act.put, List.setIfInBounds_toArray, List.set_cons_zero, List.set_cons_succ])
            (refine wpAnyH_take (i := 27) (v := undef) rfl (by kernel_rfl) (by kernel_rfl) (by kernel_rfl) (fun _ _ _ h => h) (.inr ⟨by rfl, rfl⟩) (by assumption) ?_; try simp only [List.getElem_toArray, List.getElem_cons_succ, List.getElem_cons_zero, Act.put, List.setIfInBounds_toArray, List.set_cons_zero, List.set_cons_succ])
            (refine wpAnyH_take (i := 28) (v := undef) rfl (by kernel_rfl) (by kernel_rfl) (by kernel_rfl) (fun _ _ _ h => h) (.inr ⟨by rfl, rfl⟩) (by assumption) ?_; try simp only [List.getElem_toArray, List.getElem_cons_succ, List.getElem_cons_zero, Act.put, List.setIfInBounds_toArray, List.set_cons_zero, List.set_cons_succ])
            (refine wpAnyH_take (i := 29) (v := undef) rfl (by kernel_rfl) (by kernel_rfl) (by kernel_rfl) (fun _ _ _ h => h) (.inr ⟨by rfl, rfl⟩) (by assumption) ?_; try simp only [List.getElem_toArray, List.getElem_cons_succ, List.getElem_cons_zero, Act.put, List.setIfInBounds_toArray, List.set_cons_zero, List.set_cons_succ])
            (refine wpAnyH_take (i := 30) (v := undef) rfl (by kernel_rfl) (by kernel_rfl) (by kernel_rfl) (fun _ _ _ h => h) (.inr ⟨by rfl, rfl⟩) (by assumption) ?_; try simp only [List.getElem_toArray, List.getElem_cons_succ, List.getElem_cons_zero, Act.put, List.setIfInBounds_toArray, List.set_cons_zero, List.set_cons_succ])
            (refine wpAnyH_take (i := 31) (v := undef) rfl (by kernel_rfl) (by kernel_rfl) (by kernel_rfl) (fun _ _ _ h => h) (.inr ⟨by rfl, rfl⟩) (by assumption) ?_; try simp only [List.getElem_toArray, List.getElem_cons_succ, List.getElem_cons_zero, Act.put, List.setIfInBounds_toArray, List.set_cons_zero, List.set_cons_succ])
            (refine wpAnyH_take (i := 32) (v := ?_) rfl (by kernel_rfl) (by kernel_rfl) (by kernel_rfl) (fun _ _ _ h => h) (.inl ⟨by rfl, ?_⟩) (by assumption) ?_; rotate_left; (focus (intro w hSw; obtain ⟨s0, s1, s2, s3, s4, s5, s6, s7⟩ := hSw; (try dsimp only at s0 s1 s2 s3 s4 s5 s6 s7); (try simp only [List.getElem_toArray, List.getElem_cons_succ, List.getElem_cons_zero]); go_simp; try (with_reducible rfl))); try simp only [List.getElem_toArray, List.getElem_cons_succ, List.getElem_cons_zero, Act.put, List.setIfInBounds_toArray, List.set_cons_zero, List.set_cons_succ])
            (refine wpAnyH_take (i := 33) (v := ?_) rfl (by kernel_rfl) (by kernel_rfl) (by kernel_rfl) (fun _ _ _ h => h) (.inl ⟨by rfl, ?_⟩) (by assumption) ?_; rotate_left; (focus (intro w hSw; obtain ⟨s0, s1, s2, s3, s4, s5, s6, s7⟩ := hSw; (try dsimp only at s0 s1 s2 s3 s4 s5 s6 s7); (try simp only [List.getElem_toArray, List.getElem_cons_succ, List.getElem_cons_zero]); go_simp; try (with_reducible rfl))); try simp only [List.getElem_toArray, List.getElem_cons_succ, List.getElem_cons_zero, Act.put, List.setIfInBounds_toArray, List.set_cons_zero, List.set_cons_succ])
            (refine wpAnyH_take (i := 34) (v := ?_) rfl (by kernel_rfl) (by kernel_rfl) (by kernel_rfl) (fun _ _ _ h => h) (.inl ⟨by rfl, ?_⟩) (by assumption) ?_; rotate_left; (focus (intro w hSw; obtain ⟨s0, s1, s2, s3, s4, s5, s6, s7⟩ := hSw; (try dsimp only at s0 s1 s2 s3 s4 s5 s6 s7); (try simp only [List.getElem_toArray, List.getElem_cons_succ, List.getElem_cons_zero]); go_simp; try (with_reducible rfl))); try simp only [List.getElem_toArray, List.getElem_cons_succ, List.getElem_cons_zero, Act.put, List.setIfInBounds_toArray, List.set_cons_zero, List.set_cons_succ])
            (refine wpAnyH_take (i := 35) (v := ?_) rfl (by kernel_rfl) (by kernel_rfl) (by kernel_rfl) (fun _ _ _ h => h) (.inl ⟨by rfl, ?_⟩) (by assumption) ?_; rotate_left; (focus (intro w hSw; obtain ⟨s0, s1, s2, s3, s4, s5, s6, s7⟩ := hSw; (try dsimp only at s0 s1 s2 s3 s4 s5 s6 s7); (try simp only [List.getElem_toArray, List.getElem_cons_succ, List.getElem_cons_zero]); go_simp; try (with_reducible rfl))); try simp only [List.getElem_toArray, List.getElem_cons_succ, List.getElem_cons_zero, Act.put, List.setIfInBounds_toArray, List.set_cons_zero, List.set_cons_succ])
            (refine wpAnyH_take (i := 36) (v := ?_) rfl (by kernel_rfl) (by kernel_rfl) (by kernel_rfl) (fun _ _ _ h => h) (.inl ⟨by rfl, ?_⟩) (by assumption) ?_; rotate_left; (focus (intro w hSw; obtain ⟨s0, s1, s2, s3, s4, s5, s6, s7⟩ := hSw; (try dsimp only at s0 s1 s2 s3 s4 s5 s6 s7); (try simp only [List.getElem_toArray, List.getElem_cons_succ, List.getElem_cons_zero]); go_simp; try (with_reducible rfl))); try simp only [List.getElem_toArray, List.getElem_cons_succ, List.getElem_cons_zero, Act.put, List.setIfInBounds_toArray, List.set_cons_zero, List.set_cons_succ])
            (refine wpAnyH_take (i := 37) (v := ?_) rfl (by kernel_rfl) (by kernel_rfl) (by kernel_rfl) (fun _ _ _ h => h) (.inl ⟨by rfl, ?_⟩) (by assumption) ?_; rotate_left; (focus (intro w hSw; obtain ⟨s0, s1, s2, s3, s4, s5, s6, s7⟩ := hSw; (try dsimp only at s0 s1 s2 s3 s4 s5 s6 s7); (try simp only [List.getElem_toArray, List.getElem_cons_succ, List.getElem_cons_zero]); go_simp; try (with_reducible rfl))); try simp only [List.getElem_toArray, List.getElem_cons_succ, List.getElem_cons_zero, Act.put, List.setIfInBounds_toArray, List.set_cons_zero, List.set_cons_succ])
            (refine wpAnyH_take (i := 38) (v := ?_) rfl (by kernel_rfl) (by kernel_rfl) (by kernel_rfl) (fun _ _ _ h => h) (.inl ⟨by rfl, ?_⟩) (by assumption) ?_; rotate_left; (focus (intro w hSw; obtain ⟨s0, s1, s2, s3, s4, s5, s6, s7⟩ := hSw; (try dsimp only at s0 s1 s2 s3 s4 s5 s6 s7); (try simp only [List.getElem_toArray, List.getElem_cons_succ, List.getElem_cons_zero]); go_simp; try (with_reducible rfl))); try simp only [List.getElem_toArray, List.getElem_cons_succ, List.getElem_cons_zero, Act.put, List.setIfInBounds_toArray, List.set_cons_zero, List.set_cons_succ])
            (refine wpAnyH_ready (rs := [39]) (by kernel_rfl) (by simp) ?_; refine AllReadyH.cons rfl (fun K hK => ?_) AllReadyH.nil)
            go_simp
            go_at_call 40
            with_reducible refine (zerocert_any _).mono ?_
            rintro er w8 ⟨rfl, hb⟩
            have HT8 := Sd.mk (HT7.out.below hb)
            have HX8 := Sd.mk (blk_keep HX7.out hb)
            clear hb
            have S8 := s13 HT8.out.k.op HCS.out HX8.out
            (refine hK.out _ _ S8 (fun hHeld => ?_); (clear hK K; try simp only [List.getElem_toArray, List.getElem_cons_succ, List.getElem_cons_zero, Act.put, List.setIfInBounds_toArray, List.set_cons_zero, List.set_cons_succ]))
            clear S8
            (refine wpAnyH_take (i := 40) (v := ?_) rfl (by kernel_rfl) (by kernel_rfl) (by kernel_rfl) (fun _ _ _ h => h) (.inl ⟨by rfl, ?_⟩) (by assumption) ?_; rotate_left; (focus (intro w hSw; obtain ⟨s0, s1, s2, s3, s4, s5, s6, s7⟩ := hSw; (try dsimp only at s0 s1 s2 s3 s4 s5 s6 s7); (try simp only [List.getElem_toArray, List.getElem_cons_succ, List.getElem_cons_zero]); go_simp; try (with_reducible rfl))); try simp only [List.getElem_toArray, List.getElem_cons_succ, List.getElem_cons_zero, Act.put, List.setIfInBounds_toArray, List.set_cons_zero, List.set_cons_succ])
            (refine wpAnyH_take (i := 41) (v := ?_) rfl (by kernel_rfl) (by kernel_rfl) (by kernel_rfl) (fun _ _ _ h => h) (.inl ⟨by rfl, ?_⟩) (by assumption) ?_; rotate_left; (focus (intro w hSw; obtain ⟨s0, s1, s2, s3, s4, s5, s6, s7⟩ := hSw; (try dsimp only at s0 s1 s2 s3 s4 s5 s6 s7); (try simp only [List.getElem_toArray, List.getElem_cons_succ, List.getElem_cons_zero]); go_simp; try (with_reducible rfl))); try simp only [List.getElem_toArray, List.getElem_cons_succ, List.getElem_cons_zero, Act.put, List.setIfInBounds_toArray, List.set_cons_zero, List.set_cons_succ])
            (refine wpAnyH_take (i := 42) (v := ?_) rfl (by kernel_rfl) (by kernel_rfl) (by kernel_rfl) (fun _ _ _ h => h) (.inl ⟨by rfl, ?_⟩) (by assumption) ?_; rotate_left; (focus (intro w hSw; obtain ⟨s0, s1, s2, s3, s4, s5, s6, s7⟩ := hSw; (try dsimp only at s0 s1 s2 s3 s4 s5 s6 s7); (try simp only [List.getElem_toArray, List.getElem_cons_succ, List.getElem_cons_zero]); go_simp; try (with_reducible rfl))); try simp only [List.getElem_toArray, List.getElem_cons_succ, List.getElem_cons_zero, Act.put, List.setIfInBounds_toArray, List.set_cons_zero, List.set_cons_succ])
            refine wpAnyH_done (by kernel_rfl) ?_ _
            clear hHeld
            go_upto_region 15 with (fail)
            have HT3 := HT8
            (obtain ⟨A9, c9, rfl⟩ := rb_len HT3.out.k.rb; obtain ⟨k9, hk9⟩ : ∃ k, vs3.length = k := ⟨_, rfl⟩; rw [hk9] at HT3; obtain ⟨kk, hkk⟩ : ∃ k, (ofF vs3 x.view x.block).length = k := ⟨_, rfl⟩; have l900 : vs3.length ≤ 900 := (by have := HI3.out.2; omega); have HLN := Sd.mk (fun Wi (hb : RowKit.Below w8.heap.size w8 Wi) => show Calls Try.prog 34 #[.pointer (some ⟨g, 0, none⟩)] Wi fun e w' => e = .returned (.int .i64 (k9 : Nat)) ∧ RowKit.Below Wi.heap.size Wi w' from (len_any (HT3.out.below hb).ty k9 hk9).mono (fun e w' hq => ⟨hq.1, by rw [hq.2]; exact Below.refl _ _⟩)); have HCN := Sd.mk (fun Wi (hb : RowKit.Below w8.heap.size w8 Wi) => count_any (HT3.out.below hb).ty (by omega) x.view x.block kk hkk); have HRC := Sd.mk (fun Wi (hb : RowKit.Below w8.heap.size w8 Wi) => refcount_any (HT3.out.below hb).k.rb x.view x.block kk hkk); clear hk9 hkk l900; obtain ⟨p0, p1, p2, p3, p4⟩ := opb_at HT3.out.k.op HCS.out; have p5 := blk_at HT3.out.k.rb.blk 4 _ rfl; have o0 := fun d os => cell_regrown p0 d os; have o1 := fun d os => cell_regrown p1 d os; have o5 := fun d os => cell_regrown p5 d os; clear p0 p1 p2 p3 p4 p5)
            (refine wp_region_quiet_below (by assumption) (by kernel_rfl) ?_; repeat (go_big_quiet_step ((first | (go_at_call 34; refine Calls.regrown_of (HLN.out _ (below_regrown _ _ _))) | (go_at_call 41; refine Calls.regrown_of (HCN.out _ (below_regrown _ _ _))) | (go_at_call 39; refine Calls.regrown_of (HRC.out _ (below_regrown _ _ _)))))))
            (refine wpQuiet_nil ?_; rintro W10 ⟨⟨nq, osq⟩, rfl⟩; have HT9 := Sd.mk (HT3.out.below (below_regrown w8 nq osq)); clear HLN HCN HRC o0 o1 o5; go_wp2)
            go_roundg (gk - 1)
            case measure => omega
            case rel => exact ⟨i + 1, vs3, _, _, _, by omega, by go_num, HI3, ⟨HT9.out.re (kp_rb _ _ _ _ _ _ _) HT9.out.k.rb⟩⟩
          | true =>
            have e1 : cv = x.view := (HG.out.yes rfl).1
            have e2 : cb = x.block := (HG.out.yes rfl).2.1
            have HKK := Sd.mk (show (ofF vs3 x.view x.block).length = k' from (HG.out.yes rfl).2.2.symm)
            subst e1
            subst e2
            clear HG
            refine wp_region_held_drew (S := (fun W => W.cell? ⟨Bo, 0, none⟩ = some (.int .i64 x.view) ∧ W.cell? ⟨Bo, 1, none⟩ = some (.string x.block) ∧ W.cell? ⟨Bo, 2, none⟩ = some (.int .i64 x.sig.node) ∧ W.cell? ⟨Bo, 3, none⟩ = some (.slice A1 m c1) ∧ W.cell? ⟨Bo, 4, none⟩ = some (.bool false) ∧ W.cell? ⟨Bx, 0, none⟩ = some (.int .i64 x.view) ∧ W.cell? ⟨Bx, 1, none⟩ = some (.string x.block) ∧ W.cell? ⟨Bx, 2, none⟩ = some (.slice A' k' c'))) (by kernel_rfl) S0 (fun hHeld => ?_)
            simp only [List.size_toArray, List.length_cons, List.length_nil]
            (refine wpAnyH_take (i := 0) (v := ?_) rfl (by kernel_rfl) (by kernel_rfl) (by kernel_rfl) (fun _ _ _ h => h) (.inl ⟨by rfl, ?_⟩) (by assumption) ?_; rotate_left; (focus (intro w hSw; obtain ⟨s0, s1, s2, s3, s4, s5, s6, s7⟩ := hSw; (try dsimp only at s0 s1 s2 s3 s4 s5 s6 s7); (try simp only [List.getElem_toArray, List.getElem_cons_succ, List.getElem_cons_zero]); go_simp; try (with_reducible rfl))); try simp only [List.getElem_toArray, List.getElem_cons_succ, List.getElem_cons_zero, Act.put, List.setIfInBounds_toArray, List.set_cons_zero, List.set_cons_succ])
            (refine wpAnyH_take (i := 1) (v := ?_) rfl (by kernel_rfl) (by kernel_rfl) (by kernel_rfl) (fun _ _ _ h => h) (.inl ⟨by rfl, ?_⟩) (by assumption) ?_; rotate_left; (focus (intro w hSw; obtain ⟨s0, s1, s2, s3, s4, s5, s6, s7⟩ := hSw; (try dsimp only at s0 s1 s2 s3 s4 s5 s6 s7); (try simp only [List.getElem_toArray, List.getElem_cons_succ, List.getElem_cons_zero]); go_simp; try (with_reducible rfl))); try simp only [List.getElem_toArray, List.getElem_cons_succ, List.getElem_cons_zero, Act.put, List.setIfInBounds_toArray, List.set_cons_zero, List.set_cons_succ])
            (refine wpAnyH_take (i := 2) (v := ?_) rfl (by kernel_rfl) (by kernel_rfl) (by kernel_rfl) (fun _ _ _ h => h) (.inl ⟨by rfl, ?_⟩) (by assumption) ?_; rotate_left; (focus (intro w hSw; obtain ⟨s0, s1, s2, s3, s4, s5, s6, s7⟩ := hSw; (try dsimp only at s0 s1 s2 s3 s4 s5 s6 s7); (try simp only [List.getElem_toArray, List.getElem_cons_succ, List.getElem_cons_zero]); go_simp; try (with_reducible rfl))); try simp only [List.getElem_toArray, List.getElem_cons_succ, List.getElem_cons_zero, Act.put, List.setIfInBounds_toArray, List.set_cons_zero, List.set_cons_succ])
            (refine wpAnyH_ready (rs := [3]) (by kernel_rfl) (by simp) ?_; refine AllReadyH.cons rfl (fun K hK => ?_) AllReadyH.nil)
            go_simp
            (go_at_call 38; with_reducible refine (HRA.out _ HTD.out.bel HTD.out.k.rb).mono ?_; rintro er w7 ⟨rfl, hg, v9, hr⟩; have HT7 := Sd.mk (HTD.out.over hg HGE.out HTD.out.k.rb.blk (kp_kb h tn n lim v9 vs3 Bo cs0) ⟨hr, opb_over HTD.out.k.op hg HTD.out.k.rb.blk⟩); have HX7 := Sd.mk (crt_over HXD.out hg HTD.out.k.rb.blk); clear hg hr; have S7 := s13 HT7.out.k.op HCS.out HX7.out)
            (refine hK.out _ _ S7 (fun hHeld => ?_); (clear hK K; try simp only [List.getElem_toArray, List.getElem_cons_succ, List.getElem_cons_zero, Act.put, List.setIfInBounds_toArray, List.set_cons_zero, List.set_cons_succ]))
            clear S7
            (refine wpAnyH_take (i := 4) (v := ?_) rfl (by kernel_rfl) (by kernel_rfl) (by kernel_rfl) (fun _ _ _ h => h) (.inl ⟨by rfl, ?_⟩) (by assumption) ?_; rotate_left; (focus (intro w hSw; obtain ⟨s0, s1, s2, s3, s4, s5, s6, s7⟩ := hSw; (try dsimp only at s0 s1 s2 s3 s4 s5 s6 s7); (try simp only [List.getElem_toArray, List.getElem_cons_succ, List.getElem_cons_zero]); go_simp; try (with_reducible rfl))); try simp only [List.getElem_toArray, List.getElem_cons_succ, List.getElem_cons_zero, Act.put, List.setIfInBounds_toArray, List.set_cons_zero, List.set_cons_succ])
            (refine wpAnyH_take (i := 5) (v := ?_) rfl (by kernel_rfl) (by kernel_rfl) (by kernel_rfl) (fun _ _ _ h => h) (.inl ⟨by rfl, ?_⟩) (by assumption) ?_; rotate_left; (focus (intro w hSw; obtain ⟨s0, s1, s2, s3, s4, s5, s6, s7⟩ := hSw; (try dsimp only at s0 s1 s2 s3 s4 s5 s6 s7); (try simp only [List.getElem_toArray, List.getElem_cons_succ, List.getElem_cons_zero]); go_simp; try (with_reducible rfl))); try simp only [List.getElem_toArray, List.getElem_cons_succ, List.getElem_cons_zero, Act.put, List.setIfInBounds_toArray, List.set_cons_zero, List.set_cons_succ])
            (refine wpAnyH_take (i := 6) (v := ?_) rfl (by kernel_rfl) (by kernel_rfl) (by kernel_rfl) (fun _ _ _ h => h) (.inl ⟨by rfl, ?_⟩) (by assumption) ?_; rotate_left; (focus (intro w hSw; obtain ⟨s0, s1, s2, s3, s4, s5, s6, s7⟩ := hSw; (try dsimp only at s0 s1 s2 s3 s4 s5 s6 s7); (try simp only [List.getElem_toArray, List.getElem_cons_succ, List.getElem_cons_zero]); go_simp; try (with_reducible rfl))); try simp only [List.getElem_toArray, List.getElem_cons_succ, List.getElem_cons_zero, Act.put, List.setIfInBounds_toArray, List.set_cons_zero, List.set_cons_succ])
            (refine wpAnyH_take (i := 7) (v := ?_) rfl (by kernel_rfl) (by kernel_rfl) (by kernel_rfl) (fun _ _ _ h => h) (.inl ⟨by rfl, ?_⟩) (by assumption) ?_; rotate_left; (focus (intro w hSw; obtain ⟨s0, s1, s2, s3, s4, s5, s6, s7⟩ := hSw; (try dsimp only at s0 s1 s2 s3 s4 s5 s6 s7); (try simp only [List.getElem_toArray, List.getElem_cons_succ, List.getElem_cons_zero]); go_simp; try (with_reducible rfl))); try simp only [List.getElem_toArray, List.getElem_cons_succ, List.getElem_cons_zero, Act.put, List.setIfInBounds_toArray, List.set_cons_zero, List.set_cons_succ])
            (refine wpAnyH_take (i := 8) (v := ?_) rfl (by kernel_rfl) (by kernel_rfl) (by kernel_rfl) (fun _ _ _ h => h) (.inl ⟨by rfl, ?_⟩) (by assumption) ?_; rotate_left; (focus (intro w hSw; obtain ⟨s0, s1, s2, s3, s4, s5, s6, s7⟩ := hSw; (try dsimp only at s0 s1 s2 s3 s4 s5 s6 s7); (try simp only [List.getElem_toArray, List.getElem_cons_succ, List.getElem_cons_zero]); go_simp; try (with_reducible rfl))); try simp only [List.getElem_toArray, List.getElem_cons_succ, List.getElem_cons_zero, Act.put, List.setIfInBounds_toArray, List.set_cons_zero, List.set_cons_succ])
            (refine wpAnyH_take (i := 9) (v := ?_) rfl (by kernel_rfl) (by kernel_rfl) (by kernel_rfl) (fun _ _ _ h => h) (.inl ⟨by rfl, ?_⟩) (by assumption) ?_; rotate_left; (focus (intro w hSw; obtain ⟨s0, s1, s2, s3, s4, s5, s6, s7⟩ := hSw; (try dsimp only at s0 s1 s2 s3 s4 s5 s6 s7); (try simp only [List.getElem_toArray, List.getElem_cons_succ, List.getElem_cons_zero]); go_simp; try (with_reducible rfl))); try simp only [List.getElem_toArray, List.getElem_cons_succ, List.getElem_cons_zero, Act.put, List.setIfInBounds_toArray, List.set_cons_zero, List.set_cons_succ])
            (refine wpAnyH_take (i := 10) (v := ?_) rfl (by kernel_rfl) (by kernel_rfl) (by kernel_rfl) (fun _ _ _ h => h) (.inl ⟨by rfl, ?_⟩) (by assumption) ?_; rotate_left; (focus (intro w hSw; obtain ⟨s0, s1, s2, s3, s4, s5, s6, s7⟩ := hSw; (try dsimp only at s0 s1 s2 s3 s4 s5 s6 s7); (try simp only [List.getElem_toArray, List.getElem_cons_succ, List.getElem_cons_zero]); go_simp; try (with_reducible rfl))); try simp only [List.getElem_toArray, List.getElem_cons_succ, List.getElem_cons_zero, Act.put, List.setIfInBounds_toArray, List.set_cons_zero, List.set_cons_succ])
            (refine wpAnyH_take (i := 11) (v := ?_) rfl (by kernel_rfl) (by kernel_rfl) (by kernel_rfl) (fun _ _ _ h => h) (.inl ⟨by rfl, ?_⟩) (by assumption) ?_; rotate_left; (focus (intro w hSw; obtain ⟨s0, s1, s2, s3, s4, s5, s6, s7⟩ := hSw; (try dsimp only at s0 s1 s2 s3 s4 s5 s6 s7); (try simp only [List.getElem_toArray, List.getElem_cons_succ, List.getElem_cons_zero]); go_simp; try (with_reducible rfl))); try simp only [List.getElem_toArray, List.getElem_cons_succ, List.getElem_cons_zero, Act.put, List.setIfInBounds_toArray, List.set_cons_zero, List.set_cons_succ])
            (refine wpAnyH_take (i := 12) (v := ?_) rfl (by kernel_rfl) (by kernel_rfl) (by kernel_rfl) (fun _ _ _ h => h) (.inl ⟨by rfl, ?_⟩) (by assumption) ?_; rotate_left; (focus (intro w hSw; obtain ⟨s0, s1, s2, s3, s4, s5, s6, s7⟩ := hSw; (try dsimp only at s0 s1 s2 s3 s4 s5 s6 s7); (try simp only [List.getElem_toArray, List.getElem_cons_succ, List.getElem_cons_zero]); go_simp; try (with_reducible rfl))); try simp only [List.getElem_toArray, List.getElem_cons_succ, List.getElem_cons_zero, Act.put, List.setIfInBounds_toArray, List.set_cons_zero, List.set_cons_succ])
            (refine wpAnyH_take (i := 13) (v := ?_) rfl (by kernel_rfl) (by kernel_rfl) (by kernel_rfl) (fun _ _ _ h => h) (.inl ⟨by rfl, ?_⟩) (by assumption) ?_; rotate_left; (focus (intro w hSw; obtain ⟨s0, s1, s2, s3, s4, s5, s6, s7⟩ := hSw; (try dsimp only at s0 s1 s2 s3 s4 s5 s6 s7); (try simp only [List.getElem_toArray, List.getElem_cons_succ, List.getElem_cons_zero]); go_simp; try (with_reducible rfl))); try simp only [List.getElem_toArray, List.getElem_cons_succ, List.getElem_cons_zero, Act.put, List.setIfInBounds_toArray, List.set_cons_zero, List.set_cons_succ])
            (refine wpAnyH_take (i := 14) (v := ?_) rfl (by kernel_rfl) (by kernel_rfl) (by kernel_rfl) (fun _ _ _ h => h) (.inl ⟨by rfl, ?_⟩) (by assumption) ?_; rotate_left; (focus (intro w hSw; obtain ⟨s0, s1, s2, s3, s4, s5, s6, s7⟩ := hSw; (try dsimp only at s0 s1 s2 s3 s4 s5 s6 s7); (try simp only [List.getElem_toArray, List.getElem_cons_succ, List.getElem_cons_zero]); go_simp; try (with_reducible rfl))); try simp only [List.getElem_toArray, List.getElem_cons_succ, List.getElem_cons_zero, Act.put, List.setIfInBounds_toArray, List.set_cons_zero, List.set_cons_succ])
            (refine wpAnyH_take (i := 15) (v := ?_) rfl (by kernel_rfl) (by kernel_rfl) (by kernel_rfl) (fun _ _ _ h => h) (.inl ⟨by rfl, ?_⟩) (by assumption) ?_; rotate_left; (focus (intro w hSw; obtain ⟨s0, s1, s2, s3, s4, s5, s6, s7⟩ := hSw; (try dsimp only at s0 s1 s2 s3 s4 s5 s6 s7); (try simp only [List.getElem_toArray, List.getElem_cons_succ, List.getElem_cons_zero]); go_simp; try (with_reducible rfl))); try simp only [List.getElem_toArray, List.getElem_cons_succ, List.getElem_cons_zero, Act.put, List.setIfInBounds_toArray, List.set_cons_zero, List.set_cons_succ])
            (refine wpAnyH_take (i := 16) (v := ?_) rfl (by kernel_rfl) (by kernel_rfl) (by kernel_rfl) (fun _ _ _ h => h) (.inl ⟨by rfl, ?_⟩) (by assumption) ?_; rotate_left; (focus (intro w hSw; obtain ⟨s0, s1, s2, s3, s4, s5, s6, s7⟩ := hSw; (try dsimp only at s0 s1 s2 s3 s4 s5 s6 s7); (try simp only [List.getElem_toArray, List.getElem_cons_succ, List.getElem_cons_zero]); go_simp; try (with_reducible rfl))); try simp only [List.getElem_toArray, List.getElem_cons_succ, List.getElem_cons_zero, Act.put, List.setIfInBounds_toArray, List.set_cons_zero, List.set_cons_succ])
            (refine wpAnyH_take (i := 17) (v := ?_) rfl (by kernel_rfl) (by kernel_rfl) (by kernel_rfl) (fun _ _ _ h => h) (.inl ⟨by rfl, ?_⟩) (by assumption) ?_; rotate_left; (focus (intro w hSw; obtain ⟨s0, s1, s2, s3, s4, s5, s6, s7⟩ := hSw; (try dsimp only at s0 s1 s2 s3 s4 s5 s6 s7); (try simp only [List.getElem_toArray, List.getElem_cons_succ, List.getElem_cons_zero]); go_simp; try (with_reducible rfl))); try simp only [List.getElem_toArray, List.getElem_cons_succ, List.getElem_cons_zero, Act.put, List.setIfInBounds_toArray, List.set_cons_zero, List.set_cons_succ])
            (refine wpAnyH_take (i := 18) (v := ?_) rfl (by kernel_rfl) (by kernel_rfl) (by kernel_rfl) (fun _ _ _ h => h) (.inl ⟨by rfl, ?_⟩) (by assumption) ?_; rotate_left; (focus (intro w hSw; obtain ⟨s0, s1, s2, s3, s4, s5, s6, s7⟩ := hSw; (try dsimp only at s0 s1 s2 s3 s4 s5 s6 s7); (try simp only [List.getElem_toArray, List.getElem_cons_succ, List.getElem_cons_zero]); go_simp; try (with_reducible rfl))); try simp only [List.getElem_toArray, List.getElem_cons_succ, List.getElem_cons_zero, Act.put, List.setIfInBounds_toArray, List.set_cons_zero, List.set_cons_succ])
            (refine wpAnyH_take (i := 19) (v := ?_) rfl (by kernel_rfl) (by kernel_rfl) (by kernel_rfl) (fun _ _ _ h => h) (.inl ⟨by rfl, ?_⟩) (by assumption) ?_; rotate_left; (focus (intro w hSw; obtain ⟨s0, s1, s2, s3, s4, s5, s6, s7⟩ := hSw; (try dsimp only at s0 s1 s2 s3 s4 s5 s6 s7); (try simp only [List.getElem_toArray, List.getElem_cons_succ, List.getElem_cons_zero]); go_simp; try (with_reducible rfl))); try simp only [List.getElem_toArray, List.getElem_cons_succ, List.getElem_cons_zero, Act.put, List.setIfInBounds_toArray, List.set_cons_zero, List.set_cons_succ])
            (refine wpAnyH_take (i := 20) (v := ?_) rfl (by kernel_rfl) (by kernel_rfl) (by kernel_rfl) (fun _ _ _ h => h) (.inl ⟨by rfl, ?_⟩) (by assumption) ?_; rotate_left; (focus (intro w hSw; obtain ⟨s0, s1, s2, s3, s4, s5, s6, s7⟩ := hSw; (try dsimp only at s0 s1 s2 s3 s4 s5 s6 s7); (try simp only [List.getElem_toArray, List.getElem_cons_succ, List.getElem_cons_zero]); go_simp; try (with_reducible rfl))); try simp only [List.getElem_toArray, List.getElem_cons_succ, List.getElem_cons_zero, Act.put, List.setIfInBounds_toArray, List.set_cons_zero, List.set_cons_succ])
            (refine wpAnyH_take (i := 21) (v := ?_) rfl (by kernel_rfl) (by kernel_rfl) (by kernel_rfl) (fun _ _ _ h => h) (.inl ⟨by rfl, ?_⟩) (by assumption) ?_; rotate_left; (focus (intro w hSw; obtain ⟨s0, s1, s2, s3, s4, s5, s6, s7⟩ := hSw; (try dsimp only at s0 s1 s2 s3 s4 s5 s6 s7); (try simp only [List.getElem_toArray, List.getElem_cons_succ, List.getElem_cons_zero]); go_simp; try (with_reducible rfl))); try simp only [List.getElem_toArray, List.getElem_cons_succ, List.getElem_cons_zero, Act.put, List.setIfInBounds_toArray, List.set_cons_zero, List.set_cons_succ])
            (refine wpAnyH_take (i := 22) (v := ?_) rfl (by kernel_rfl) (by kernel_rfl) (by kernel_rfl) (fun _ _ _ h => h) (.inl ⟨by rfl, ?_⟩) (by assumption) ?_; rotate_left; (focus (intro w hSw; obtain ⟨s0, s1, s2, s3, s4, s5, s6, s7⟩ := hSw; (try dsimp only at s0 s1 s2 s3 s4 s5 s6 s7); (try simp only [List.getElem_toArray, List.getElem_cons_succ, List.getElem_cons_zero]); go_simp; try (with_reducible rfl))); try simp only [List.getElem_toArray, List.getElem_cons_succ, List.getElem_cons_zero, Act.put, List.setIfInBounds_toArray, List.set_cons_zero, List.set_cons_succ])
            (refine wpAnyH_take (i := 23) (v := ?_) rfl (by kernel_rfl) (by kernel_rfl) (by kernel_rfl) (fun _ _ _ h => h) (.inl ⟨by rfl, ?_⟩) (by assumption) ?_; rotate_left; (focus (intro w hSw; obtain ⟨s0, s1, s2, s3, s4, s5, s6, s7⟩ := hSw; (try dsimp only at s0 s1 s2 s3 s4 s5 s6 s7); (try simp only [List.getElem_toArray, List.getElem_cons_succ, List.getElem_cons_zero]); go_simp; try (with_reducible rfl))); try simp only [List.getElem_toArray, List.getElem_cons_succ, List.getElem_cons_zero, Act.put, List.setIfInBounds_toArray, List.set_cons_zero, List.set_cons_succ])
            (refine wpAnyH_take (i := 24) (v := ?_) rfl (by kernel_rfl) (by kernel_rfl) (by kernel_rfl) (fun _ _ _ h => h) (.inl ⟨by rfl, ?_⟩) (by assumption) ?_; rotate_left; (focus (intro w hSw; obtain ⟨s0, s1, s2, s3, s4, s5, s6, s7⟩ := hSw; (try dsimp only at s0 s1 s2 s3 s4 s5 s6 s7); (try simp only [List.getElem_toArray, List.getElem_cons_succ, List.getElem_cons_zero]); go_simp; try (with_reducible rfl))); try simp only [List.getElem_toArray, List.getElem_cons_succ, List.getElem_cons_zero, Act.put, List.setIfInBounds_toArray, List.set_cons_zero, List.set_cons_succ])
            (refine wpAnyH_take (i := 25) (v := ?_) rfl (by kernel_rfl) (by kernel_rfl) (by kernel_rfl) (fun _ _ _ h => h) (.inl ⟨by rfl, ?_⟩) (by assumption) ?_; rotate_left; (focus (intro w hSw; obtain ⟨s0, s1, s2, s3, s4, s5, s6, s7⟩ := hSw; (try dsimp only at s0 s1 s2 s3 s4 s5 s6 s7); (try simp only [List.getElem_toArray, List.getElem_cons_succ, List.getElem_cons_zero]); go_simp; try (with_reducible rfl))); try simp only [List.getElem_toArray, List.getElem_cons_succ, List.getElem_cons_zero, Act.put, List.setIfInBounds_toArray, List.set_cons_zero, List.set_cons_succ])
            (refine wpAnyH_take (i := 26) (v := ?_) rfl (by kernel_rfl) (by kernel_rfl) (by kernel_rfl) (fun _ _ _ h => h) (.inl ⟨by rfl, ?_⟩) (by assumption) ?_; rotate_left; (focus (intro w hSw; obtain ⟨s0, s1, s2, s3, s4, s5, s6, s7⟩ := hSw; (try dsimp only at s0 s1 s2 s3 s4 s5 s6 s7); (try simp only [List.getElem_toArray, List.getElem_cons_succ, List.getElem_cons_zero]); go_simp; try (with_reducible rfl))); try simp only [List.getElem_toArray, List.getElem_cons_succ, List.getElem_cons_zero, Act.put, List.setIfInBounds_toArray, List.set_cons_zero, List.set_cons_succ])
            (refine wpAnyH_take (i := 27) (v := ?_) rfl (by kernel_rfl) (by kernel_rfl) (by kernel_rfl) (fun _ _ _ h => h) (.inl ⟨by rfl, ?_⟩) (by assumption) ?_; rotate_left; (focus (intro w hSw; obtain ⟨s0, s1, s2, s3, s4, s5, s6, s7⟩ := hSw; (try dsimp only at s0 s1 s2 s3 s4 s5 s6 s7); (try simp only [List.getElem_toArray, List.getElem_cons_succ, List.getElem_cons_zero]); go_simp; try (with_reducible rfl))); try simp only [List.getElem_toArray, List.getElem_cons_succ, List.getElem_cons_zero, Act.put, List.setIfInBounds_toArray, List.set_cons_zero, List.set_cons_succ])
            (refine wpAnyH_take (i := 28) (v := ?_) rfl (by kernel_rfl) (by kernel_rfl) (by kernel_rfl) (fun _ _ _ h => h) (.inl ⟨by rfl, ?_⟩) (by assumption) ?_; rotate_left; (focus (intro w hSw; obtain ⟨s0, s1, s2, s3, s4, s5, s6, s7⟩ := hSw; (try dsimp only at s0 s1 s2 s3 s4 s5 s6 s7); (try simp only [List.getElem_toArray, List.getElem_cons_succ, List.getElem_cons_zero]); go_simp; try (with_reducible rfl))); try simp only [List.getElem_toArray, List.getElem_cons_succ, List.getElem_cons_zero, Act.put, List.setIfInBounds_toArray, List.set_cons_zero, List.set_cons_succ])
            (refine wpAnyH_ready (rs := [29]) (by kernel_rfl) (by simp) ?_; refine AllReadyH.cons rfl (fun K hK => ?_) AllReadyH.nil)
            go_simp
            go_at_call 39
            with_reducible refine (refcount_any HT7.out.k.rb x.view x.block k' HKK.out).mono ?_
            rintro er w8 ⟨rfl, hb⟩
            have HT8 := Sd.mk (HT7.out.below hb)
            have HX8 := Sd.mk (blk_keep HX7.out hb)
            clear hb
            have S8 := s13 HT8.out.k.op HCS.out HX8.out
            (refine hK.out _ _ S8 (fun hHeld => ?_); (clear hK K; try simp only [List.getElem_toArray, List.getElem_cons_succ, List.getElem_cons_zero, Act.put, List.setIfInBounds_toArray, List.set_cons_zero, List.set_cons_succ]))
            clear S8
            (refine wpAnyH_take (i := 30) (v := ?_) rfl (by kernel_rfl) (by kernel_rfl) (by kernel_rfl) (fun _ _ _ h => h) (.inl ⟨by rfl, ?_⟩) (by assumption) ?_; rotate_left; (focus (intro w hSw; obtain ⟨s0, s1, s2, s3, s4, s5, s6, s7⟩ := hSw; (try dsimp only at s0 s1 s2 s3 s4 s5 s6 s7); (try simp only [List.getElem_toArray, List.getElem_cons_succ, List.getElem_cons_zero]); go_simp; try (with_reducible rfl))); try simp only [List.getElem_toArray, List.getElem_cons_succ, List.getElem_cons_zero, Act.put, List.setIfInBounds_toArray, List.set_cons_zero, List.set_cons_succ])
            (refine wpAnyH_take (i := 31) (v := ?_) rfl (by kernel_rfl) (by kernel_rfl) (by kernel_rfl) (fun _ _ _ h => h) (.inl ⟨by rfl, ?_⟩) (by assumption) ?_; rotate_left; (focus (intro w hSw; obtain ⟨s0, s1, s2, s3, s4, s5, s6, s7⟩ := hSw; (try dsimp only at s0 s1 s2 s3 s4 s5 s6 s7); (try simp only [List.getElem_toArray, List.getElem_cons_succ, List.getElem_cons_zero]); go_simp; try (with_reducible rfl))); try simp only [List.getElem_toArray, List.getElem_cons_succ, List.getElem_cons_zero, Act.put, List.setIfInBounds_toArray, List.set_cons_zero, List.set_cons_succ])
            (refine wpAnyH_take (i := 32) (v := ?_) rfl (by kernel_rfl) (by kernel_rfl) (by kernel_rfl) (fun _ _ _ h => h) (.inl ⟨by rfl, ?_⟩) (by assumption) ?_; rotate_left; (focus (intro w hSw; obtain ⟨s0, s1, s2, s3, s4, s5, s6, s7⟩ := hSw; (try dsimp only at s0 s1 s2 s3 s4 s5 s6 s7); (try simp only [List.getElem_toArray, List.getElem_cons_succ, List.getElem_cons_zero]); go_simp; try (with_reducible rfl))); try simp only [List.getElem_toArray, List.getElem_cons_succ, List.getElem_cons_zero, Act.put, List.setIfInBounds_toArray, List.set_cons_zero, List.set_cons_succ])
            (refine wpAnyH_take (i := 33) (v := ?_) rfl (by kernel_rfl) (by kernel_rfl) (by kernel_rfl) (fun _ _ _ h => h) (.inl ⟨by rfl, ?_⟩) (by assumption) ?_; rotate_left; (focus (intro w hSw; obtain ⟨s0, s1, s2, s3, s4, s5, s6, s7⟩ := hSw; (try dsimp only at s0 s1 s2 s3 s4 s5 s6 s7); (try simp only [List.getElem_toArray, List.getElem_cons_succ, List.getElem_cons_zero]); go_simp; try (with_reducible rfl))); try simp only [List.getElem_toArray, List.getElem_cons_succ, List.getElem_cons_zero, Act.put, List.setIfInBounds_toArray, List.set_cons_zero, List.set_cons_succ])
            (refine wpAnyH_take (i := 34) (v := ?_) rfl (by kernel_rfl) (by kernel_rfl) (by kernel_rfl) (fun _ _ _ h => h) (.inl ⟨by rfl, ?_⟩) (by assumption) ?_; rotate_left; (focus (intro w hSw; obtain ⟨s0, s1, s2, s3, s4, s5, s6, s7⟩ := hSw; (try dsimp only at s0 s1 s2 s3 s4 s5 s6 s7); (try simp only [List.getElem_toArray, List.getElem_cons_succ, List.getElem_cons_zero]); go_simp; try (with_reducible rfl))); try simp only [List.getElem_toArray, List.getElem_cons_succ, List.getElem_cons_zero, Act.put, List.setIfInBounds_toArray, List.set_cons_zero, List.set_cons_succ])
            (refine wpAnyH_take (i := 35) (v := ?_) rfl (by kernel_rfl) (by kernel_rfl) (by kernel_rfl) (fun _ _ _ h => h) (.inl ⟨by rfl, ?_⟩) (by assumption) ?_; rotate_left; (focus (intro w hSw; obtain ⟨s0, s1, s2, s3, s4, s5, s6, s7⟩ := hSw; (try dsimp only at s0 s1 s2 s3 s4 s5 s6 s7); (try simp only [List.getElem_toArray, List.getElem_cons_succ, List.getElem_cons_zero]); go_simp; try (with_reducible rfl))); try simp only [List.getElem_toArray, List.getElem_cons_succ, List.getElem_cons_zero, Act.put, List.setIfInBounds_toArray, List.set_cons_zero, List.set_cons_succ])
            (refine wpAnyH_take (i := 36) (v := ?_) rfl (by kernel_rfl) (by kernel_rfl) (by kernel_rfl) (fun _ _ _ h => h) (.inl ⟨by rfl, ?_⟩) (by assumption) ?_; rotate_left; (focus (intro w hSw; obtain ⟨s0, s1, s2, s3, s4, s5, s6, s7⟩ := hSw; (try dsimp only at s0 s1 s2 s3 s4 s5 s6 s7); (try simp only [List.getElem_toArray, List.getElem_cons_succ, List.getElem_cons_zero]); go_simp; try (with_reducible rfl))); try simp only [List.getElem_toArray, List.getElem_cons_succ, List.getElem_cons_zero, Act.put, List.setIfInBounds_toArray, List.set_cons_zero, List.set_cons_succ])
            (refine wpAnyH_take (i := 37) (v := ?_) rfl (by kernel_rfl) (by kernel_rfl) (by kernel_rfl) (fun _ _ _ h => h) (.inl ⟨by rfl, ?_⟩) (by assumption) ?_; rotate_left; (focus (intro w hSw; obtain ⟨s0, s1, s2, s3, s4, s5, s6, s7⟩ := hSw; (try dsimp only at s0 s1 s2 s3 s4 s5 s6 s7); (try simp only [List.getElem_toArray, List.getElem_cons_succ, List.getElem_cons_zero]); go_simp; try (with_reducible rfl))); try simp only [List.getElem_toArray, List.getElem_cons_succ, List.getElem_cons_zero, Act.put, List.setIfInBounds_toArray, List.set_cons_zero, List.set_cons_succ])
            (refine wpAnyH_take (i := 38) (v := undef) rfl (by kernel_rfl) (by kernel_rfl) (by kernel_rfl) (fun _ _ _ h => h) (.inr ⟨by rfl, rfl⟩) (by assumption) ?_; try simp only [List.getElem_toArray, List.getElem_cons_succ, List.getElem_cons_zero, Act.put, List.setIfInBounds_toArray, List.set_cons_zero, List.set_cons_succ])
            (refine wpAnyH_take (i := 39) (v := undef) rfl (by kernel_rfl) (by kernel_rfl) (by kernel_rfl) (fun _ _ _ h => h) (.inr ⟨by rfl, rfl⟩) (by assumption) ?_; try simp only [List.getElem_toArray, List.getElem_cons_succ, List.getElem_cons_zero, Act.put, List.setIfInBounds_toArray, List.set_cons_zero, List.set_cons_succ])
            (refine wpAnyH_take (i := 40) (v := undef) rfl (by kernel_rfl) (by kernel_rfl) (by kernel_rfl) (fun _ _ _ h => h) (.inr ⟨by rfl, rfl⟩) (by assumption) ?_; try simp only [List.getElem_toArray, List.getElem_cons_succ, List.getElem_cons_zero, Act.put, List.setIfInBounds_toArray, List.set_cons_zero, List.set_cons_succ])
            (refine wpAnyH_take (i := 41) (v := ?_) rfl (by kernel_rfl) (by kernel_rfl) (by kernel_rfl) (fun _ _ _ h => h) (.inl ⟨by rfl, ?_⟩) (by assumption) ?_; rotate_left; (focus (intro w hSw; obtain ⟨s0, s1, s2, s3, s4, s5, s6, s7⟩ := hSw; (try dsimp only at s0 s1 s2 s3 s4 s5 s6 s7); (try simp only [List.getElem_toArray, List.getElem_cons_succ, List.getElem_cons_zero]); go_simp; try (with_reducible rfl))); try simp only [List.getElem_toArray, List.getElem_cons_succ, List.getElem_cons_zero, Act.put, List.setIfInBounds_toArray, List.set_cons_zero, List.set_cons_succ])
            (refine wpAnyH_take (i := 42) (v := ?_) rfl (by kernel_rfl) (by kernel_rfl) (by kernel_rfl) (fun _ _ _ h => h) (.inl ⟨by rfl, ?_⟩) (by assumption) ?_; rotate_left; (focus (intro w hSw; obtain ⟨s0, s1, s2, s3, s4, s5, s6, s7⟩ := hSw; (try dsimp only at s0 s1 s2 s3 s4 s5 s6 s7); (try simp only [List.getElem_toArray, List.getElem_cons_succ, List.getElem_cons_zero]); go_simp; try (with_reducible rfl))); try simp only [List.getElem_toArray, List.getElem_cons_succ, List.getElem_cons_zero, Act.put, List.setIfInBounds_toArray, List.set_cons_zero, List.set_cons_succ])
            refine wpAnyH_done (by kernel_rfl) ?_ _
            clear hHeld
            go_upto_region 15 with (fail)
            have HT3 := HT8
            (obtain ⟨A9, c9, rfl⟩ := rb_len HT3.out.k.rb; obtain ⟨k9, hk9⟩ : ∃ k, vs3.length = k := ⟨_, rfl⟩; rw [hk9] at HT3; obtain ⟨kk, hkk⟩ : ∃ k, (ofF vs3 x.view x.block).length = k := ⟨_, rfl⟩; have l900 : vs3.length ≤ 900 := (by have := HI3.out.2; omega); have HLN := Sd.mk (fun Wi (hb : RowKit.Below w8.heap.size w8 Wi) => show Calls Try.prog 34 #[.pointer (some ⟨g, 0, none⟩)] Wi fun e w' => e = .returned (.int .i64 (k9 : Nat)) ∧ RowKit.Below Wi.heap.size Wi w' from (len_any (HT3.out.below hb).ty k9 hk9).mono (fun e w' hq => ⟨hq.1, by rw [hq.2]; exact Below.refl _ _⟩)); have HCN := Sd.mk (fun Wi (hb : RowKit.Below w8.heap.size w8 Wi) => count_any (HT3.out.below hb).ty (by omega) x.view x.block kk hkk); have HRC := Sd.mk (fun Wi (hb : RowKit.Below w8.heap.size w8 Wi) => refcount_any (HT3.out.below hb).k.rb x.view x.block kk hkk); clear hk9 hkk l900; obtain ⟨p0, p1, p2, p3, p4⟩ := opb_at HT3.out.k.op HCS.out; have p5 := blk_at HT3.out.k.rb.blk 4 _ rfl; have o0 := fun d os => cell_regrown p0 d os; have o1 := fun d os => cell_regrown p1 d os; have o5 := fun d os => cell_regrown p5 d os; clear p0 p1 p2 p3 p4 p5)
            (refine wp_region_quiet_below (by assumption) (by kernel_rfl) ?_; repeat (go_big_quiet_step ((first | (go_at_call 34; refine Calls.regrown_of (HLN.out _ (below_regrown _ _ _))) | (go_at_call 41; refine Calls.regrown_of (HCN.out _ (below_regrown _ _ _))) | (go_at_call 39; refine Calls.regrown_of (HRC.out _ (below_regrown _ _ _)))))))
            (refine wpQuiet_nil ?_; rintro W10 ⟨⟨nq, osq⟩, rfl⟩; have HT9 := Sd.mk (HT3.out.below (below_regrown w8 nq osq)); clear HLN HCN HRC o0 o1 o5; go_wp2)
            go_roundg (gk - 1)
            case measure => omega
            case rel => exact ⟨i + 1, vs3, _, _, _, by omega, by go_num, HI3, ⟨HT9.out.re (kp_rb _ _ _ _ _ _ _) HT9.out.k.rb⟩⟩
      · have hii : decide (i < len) = false := decide_eq_false (by omega)
        have hii2 : decide ((i : Int) < (len : Int)) = false := decide_eq_false (by omega)
        go_wp2
        go_ret
        exact ⟨rfl, HT.out.bel⟩
theorem tp_row (w : World) (l0 : List Int) (ds : Array Value) (h : (Rk.arr (Rk.int .i64) 2).K w l0 ds.toList) (A : Option Addr) (c : Nat) (l : List Co) (h1 : l.length ≤ c) (h2 : c ≤ maxLen) (h3 : Row coK w A l) :
    Calls Try.prog 9 #[.agg ds, .slice A l.length c] w fun e w' => e = .returned (.bool true) ∧ RowKit.Below w.heap.size w w' := by
  obtain ⟨x, r, c0, c1, -, e1, ⟨rfl, w0⟩, y, r2, c2, c3, -, rfl, ⟨rfl, w1⟩, -, rfl⟩ := h
  obtain rfl := Api.arr_of e1
  exact tp_law w x y A c l ⟨h1, by unfold maxLen at h2; omega, h3⟩ _ rfl
end Go.Proofs.Ytdmdfpbklflijaa.Tal
