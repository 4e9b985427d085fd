/- The reference's Once: walked. -/
import Derived.Test.YtnomgkmeomlccaaMkOh
set_option linter.unusedVariables false
set_option linter.unusedSimpArgs false

namespace Go.Proofs.Ytnomgkmeomlccaa.Blk
open Go.RowKit Go.Sort Rd Api Own Mv App Num Dig
open Del (kp kp_none kp_yes kp_no kp_lt)

def fi (l : List Rq) (i : Nat) : List Rq := kp (seen l) l i
theorem fi_yes {l : List Rq} {i : Nat} (h : seen l i = true) : fi l (i + 1) = fi l i := kp_yes h
theorem fi_no {l : List Rq} {i : Nat} {x : Rq} (h : seen l i = false) (hx : l[i]? = some x) : fi l (i + 1) = fi l i ++ [x] := kp_no h hx
theorem fi_mem {l : List Rq} : ∀ {i : Nat}, i ≤ l.length → ∀ p, p ∈ (fi l i).map rkey ↔ p ∈ (l.take i).map rkey
  | 0, _, p => by simp [fi, kp]
  | i + 1, hi, p => by
    obtain ⟨x, hx⟩ : ∃ x, l[i]? = some x := ⟨l[i]'(by omega), List.getElem?_eq_getElem _⟩
    have ih := fi_mem (l := l) (i := i) (by omega) p
    rw [List.take_add_one, hx, List.map_append, List.mem_append]
    cases h : seen l i with
    | true =>
      rw [fi_yes h, ih]
      rw [seen_at hx, decide_eq_true_iff] at h
      refine ⟨.inl, fun e => ?_⟩
      rcases e with e | e
      · exact e
      · simp at e; subst e; exact h
    | false =>
      rw [fi_no h hx, List.map_append, List.mem_append, ih]
      rfl
theorem dup_snoc {l : List Rq} {x : Rq} : Dup (l ++ [x]) ↔ Dup l ∨ rkey x ∈ l.map rkey := by
  constructor
  · rintro ⟨i, k, a, b, h1, h2, h3, h4⟩
    have hi := (List.getElem?_eq_some_iff.1 h2).1
    rw [List.length_append] at hi
    simp at hi
    have hk : k < l.length := by omega
    rw [List.getElem?_append_left hk] at h3
    rcases Nat.lt_or_ge i l.length with e | e
    · rw [List.getElem?_append_left e] at h2
      exact .inl ⟨i, k, a, b, h1, h2, h3, h4⟩
    · obtain rfl : i = l.length := by omega
      rw [List.getElem?_append_right (Nat.le_refl _)] at h2
      simp at h2
      subst h2
      exact .inr (by rw [h4]; exact List.mem_map.2 ⟨b, List.mem_of_getElem? h3, rfl⟩)
  · rintro (⟨i, k, a, b, h1, h2, h3, h4⟩ | h)
    · have hi := (List.getElem?_eq_some_iff.1 h2).1
      exact ⟨i, k, a, b, h1, by rw [List.getElem?_append_left hi]; exact h2, by rw [List.getElem?_append_left (by omega)]; exact h3, h4⟩
    · obtain ⟨b, hb, hbe⟩ := List.mem_map.1 h
      obtain ⟨k, hk⟩ := List.getElem?_of_mem hb
      have hkl := (List.getElem?_eq_some_iff.1 hk).1
      exact ⟨l.length, k, x, b, hkl, by simp, by rw [List.getElem?_append_left hkl]; exact hk, hbe.symm⟩
theorem fi_nodup {l : List Rq} : ∀ {i : Nat}, i ≤ l.length → ¬ Dup (fi l i)
  | 0, _ => by rintro ⟨i, k, a, b, h1, h2, -⟩; simp [fi, kp] at h2
  | i + 1, hi => by
    obtain ⟨x, hx⟩ : ∃ x, l[i]? = some x := ⟨l[i]'(by omega), List.getElem?_eq_getElem _⟩
    have ih := fi_nodup (l := l) (i := i) (by omega)
    cases h : seen l i with
    | true => rw [fi_yes h]; exact ih
    | false =>
      rw [fi_no h hx, dup_snoc, fi_mem (by omega)]
      rw [seen_at hx, decide_eq_false_iff_not] at h
      rintro (e | e)
      · exact ih e
      · exact h e
theorem fi_twice {l : List Rq} {i : Nat} {x : Rq} (hx : l[i]? = some x) : seen l i = true ↔ Dup (fi l i ++ [x]) := by
  have hi := (List.getElem?_eq_some_iff.1 hx).1
  rw [dup_snoc, fi_mem (by omega), seen_at hx, decide_eq_true_iff]
  exact ⟨.inr, fun e => e.resolve_left (fi_nodup (by omega))⟩
theorem fi_pre {l : List Rq} : ∀ (j i : Nat), i + j ≤ l.length → (fi l (i + j)).take (fi l i).length = fi l i
  | 0, i, _ => List.take_of_length_le (Nat.le_refl _)
  | j + 1, i, hi => by
    obtain ⟨x, hx⟩ : ∃ x, l[i + j]? = some x := ⟨l[i + j]'(by omega), List.getElem?_eq_getElem _⟩
    have ih := fi_pre (l := l) j i (by omega)
    rw [show i + (j + 1) = (i + j) + 1 by omega]
    cases h : seen l (i + j) with
    | true => rw [fi_yes h]; exact ih
    | false =>
      rw [fi_no h hx]
      have hle : (fi l i).length ≤ (fi l (i + j)).length := by
        have := congrArg List.length ih
        rw [List.length_take] at this
        omega
      rw [List.take_append_of_le_length hle]
      exact ih
theorem fi_end {l : List Rq} {i : Nat} (hi : i ≤ l.length) (h : i = l.length ∧ (fi l i).length ≤ 3 ∨ (fi l i).length = 3) : (firsts l).take 3 = fi l i := by
  rcases h with ⟨rfl, h⟩ | h
  · exact List.take_of_length_le h
  · have := fi_pre (l := l) (l.length - i) i (by omega)
    rw [h, show i + (l.length - i) = l.length by omega] at this
    exact this
theorem row_rq1 {W : World} {b : Nat} {x : Rq} (h : W.heap[b]? = some (.cells #[.int .i64 x.c, .int .i64 x.s, .string x.b] 47 (0, 0))) : Row rqN W (some ⟨b, 0, none⟩) [x] := by
  intro i y hy
  match i, hy with
  | 0, hy =>
    cases Option.some.inj hy
    exact ⟨b, 0, _, rfl, rfl, fun j u hu => by rw [show 0 + 0 * rqN.sz + j = j by omega]; exact blk_at h j u (by simpa [fR] using hu)⟩
  | i + 1, hy => simp at hy
theorem own_rq {W : World} {base : Nat} {v : Value} {l : List Rq} (h : OwnR fR 3 W base 47 v l) : ∃ A c, v = .slice A l.length c ∧ Sl rqN W A c l := OwnR.reads (d := rqN) (f := fR) (n := 3) (fun _ _ => rfl) (fun _ => rfl) rfl h
set_option maxHeartbeats 16000000 in
set_option maxRecDepth 100000 in
theorem refonce_any (w : World) (A : Option Addr) (c : Nat) (l : List Rq) (h : Sl rqN w A c l) (hlen : l.length ≤ 1000) (n : Nat) (hn : n = l.length) :
    Calls Try.prog 22 #[.slice A n c] w fun e w' => ∃ v, e = .returned v ∧ Ro w v ((firsts l).take 3) w' := by
  have mixed : Try.prog.follows .mixedOrders = true := by kernel_rfl
  have HS := Sd.mk h
  have HN := Sd.mk hn
  have nc := Nat.le_trans h.le h.cap
  rw [← hn] at nc hlen
  clear h hn
  go_enter Try.func22, Try.ntmps22
  go_wp2
  go_loopg [3, 4] n (fun gk v3 v4 wr => ∃ (i : Nat) (B : Option Addr) (k d : Nat), i + gk = n ∧ k ≤ 3 ∧ v3 = .slice B k d ∧ v4 = .int .i64 (i : Nat) ∧ Sd ((fi l i).length = k) ∧ Sd (Ro w (.slice B k d) (fi l i) wr))
  case atStart => exact ⟨0, none, 0, 0, by omega, by omega, rfl, rfl, ⟨rfl⟩, ⟨⟨OwnR.nil _ _ _ _ _, fun k hk => (by simp [Value.ownBlock] at hk), Below.refl _ _⟩⟩⟩
  case round =>
    obtain ⟨i, B, k, d, hi, hk3, rfl, rfl, HK, HO⟩ := hrel
    by_cases hlt : i < n
    · have hii : (i : Int) < n := by omega
      by_cases hkt : k < 3
      · have hki : (k : Int) < 3 := by omega
        obtain ⟨x, hx⟩ : ∃ x, l[i]? = some x := ⟨l[i]'(by rw [← HN.out]; exact hlt), List.getElem?_eq_getElem _⟩
        obtain ⟨b1, o1, rfl, p0, p1, p2⟩ := rq_at HS.out.row hx
        obtain ⟨r, hr⟩ : ∃ r, seen l i = r := ⟨_, rfl⟩
        have HFY := Sd.mk (show r = true → fi l (i + 1) = fi l i from fun e => fi_yes (hr.trans e))
        have HFN := Sd.mk (show r = false → fi l (i + 1) = fi l i ++ [x] from fun e => fi_no (hr.trans e) hx)
        have HTW0 := Sd.mk (show r = true ↔ Dup (fi l i ++ [x]) by rw [← hr]; exact fi_twice hx)
        have HP := Sd.mk (And.intro p0 (And.intro p1 p2))
        have HKL := Sd.mk HK.out.symm
        obtain ⟨out, hout⟩ : ∃ out, fi l i = out := ⟨_, rfl⟩
        rw [hout] at HFY HFN HTW0 HKL HO
        have hnc := own_nc HO.out.own B _ d rfl
        have HNC := Sd.mk hnc
        obtain ⟨B', d', hBB, hsl⟩ := own_rq HO.out.own
        rw [← HKL.out] at hBB
        simp only [Value.slice.injEq] at hBB
        obtain ⟨rfl, -, rfl⟩ := hBB
        have hkd := hsl.le
        have hdc := hsl.cap
        rw [← HKL.out] at hkd
        have HSL := Sd.mk hsl
        clear hx hr p0 p1 p2 hout hnc hsl
        go_upto_region 5 with (fail)
        have HRO := Sd.mk (HO.out.below (below_drew' (Below.refl _ _)))
        have HRW := Sd.mk (HSL.out.row.below (below_drew' (Below.refl _ _)))
        have HCE := Sd.mk (fun W (hb : RowKit.Below wr.drew.heap.size wr.drew W) => show W.cell? ⟨b1, o1 + i * 3, none⟩ = some (.int .i64 x.c) ∧ W.cell? ⟨b1, o1 + i * 3 + 1, none⟩ = some (.int .i64 x.s) ∧ W.cell? ⟨b1, o1 + i * 3 + 2, none⟩ = some (.string x.b) from
          ⟨cell_below (below_then HRO.out.bel hb) HP.out.1, cell_below (below_then HRO.out.bel hb) HP.out.2.1, cell_below (below_then HRO.out.bel hb) HP.out.2.2⟩)
        have HTC := Sd.mk (fun W (v : Value) (ho : OwnR fR 3 W 0 47 v (out ++ [x])) (A' : Option Addr) (m' c' : Nat) (hv : v = .slice A' m' c') => show Calls Try.prog 59 #[.slice A' m' c'] W fun e w' => e = .returned (.bool r) ∧ RowKit.Below W.heap.size W w' from by
          obtain ⟨A2, c2, hv2, hs2⟩ := own_rq ho
          rw [hv] at hv2
          simp only [Value.slice.injEq] at hv2
          obtain ⟨rfl, rfl, rfl⟩ := hv2
          exact twice_any W A' c' (out ++ [x]) hs2 _ rfl r HTW0.out)
        have S0 := HCE.out _ (Below.refl _ _)
        refine Peel.region_peel (n := 10) (S := fun W => W.cell? ⟨b1, o1 + i * 3, none⟩ = some (.int .i64 x.c) ∧ W.cell? ⟨b1, o1 + i * 3 + 1, none⟩ = some (.int .i64 x.s) ∧ W.cell? ⟨b1, o1 + i * 3 + 2, none⟩ = some (.string x.b)) (by kernel_rfl) (by kernel_rfl) S0 (fun hHeld => ?_)
        simp only [List.take_succ_cons, List.take_zero]
        clear HO HSL S0
        generalize wr.drew = W5 at HRO HRW HCE hHeld ⊢
        (refine Peel.take 1 (v := ?_) rfl rfl (by kernel_rfl) (by kernel_rfl) (by kernel_rfl) (fun _ _ _ h => h) (by assumption) ?_ ?_; rotate_left; (focus (intro w hSw; obtain ⟨s0, s1, s2⟩ := hSw; (try dsimp only at s0 s1 s2); (try simp only [List.getElem_toArray, List.getElem_cons_succ, List.getElem_cons_zero]); go_simp; try (with_reducible rfl))); try simp only [List.getElem_toArray, List.getElem_cons_succ, List.getElem_cons_zero, Act.put, List.setIfInBounds_toArray, List.set_cons_zero, List.set_cons_succ])
        (refine Peel.take 3 (v := ?_) rfl rfl (by kernel_rfl) (by kernel_rfl) (by kernel_rfl) (fun _ _ _ h => h) (by assumption) ?_ ?_; rotate_left; (focus (intro w hSw; obtain ⟨s0, s1, s2⟩ := hSw; (try dsimp only at s0 s1 s2); (try simp only [List.getElem_toArray, List.getElem_cons_succ, List.getElem_cons_zero]); go_simp; try (with_reducible rfl))); try simp only [List.getElem_toArray, List.getElem_cons_succ, List.getElem_cons_zero, Act.put, List.setIfInBounds_toArray, List.set_cons_zero, List.set_cons_succ])
        (refine Peel.take 4 (v := ?_) rfl rfl (by kernel_rfl) (by kernel_rfl) (by kernel_rfl) (fun _ _ _ h => h) (by assumption) ?_ ?_; rotate_left; (focus (intro w hSw; obtain ⟨s0, s1, s2⟩ := hSw; (try dsimp only at s0 s1 s2); (try simp only [List.getElem_toArray, List.getElem_cons_succ, List.getElem_cons_zero]); go_simp; try (with_reducible rfl))); try simp only [List.getElem_toArray, List.getElem_cons_succ, List.getElem_cons_zero, Act.put, List.setIfInBounds_toArray, List.set_cons_zero, List.set_cons_succ])
        (refine Peel.take 5 (v := ?_) rfl rfl (by kernel_rfl) (by kernel_rfl) (by kernel_rfl) (fun _ _ _ h => h) (by assumption) ?_ ?_; rotate_left; (focus (intro w hSw; obtain ⟨s0, s1, s2⟩ := hSw; (try dsimp only at s0 s1 s2); (try simp only [List.getElem_toArray, List.getElem_cons_succ, List.getElem_cons_zero]); go_simp; try (with_reducible rfl))); try simp only [List.getElem_toArray, List.getElem_cons_succ, List.getElem_cons_zero, Act.put, List.setIfInBounds_toArray, List.set_cons_zero, List.set_cons_succ])
        (refine Peel.take 6 (v := ?_) rfl rfl (by kernel_rfl) (by kernel_rfl) (by kernel_rfl) (fun _ _ _ h => h) (by assumption) ?_ ?_; rotate_left; (focus (intro w hSw; obtain ⟨s0, s1, s2⟩ := hSw; (try dsimp only at s0 s1 s2); (try simp only [List.getElem_toArray, List.getElem_cons_succ, List.getElem_cons_zero]); go_simp; try (with_reducible rfl))); try simp only [List.getElem_toArray, List.getElem_cons_succ, List.getElem_cons_zero, Act.put, List.setIfInBounds_toArray, List.set_cons_zero, List.set_cons_succ])
        refine wpAnyH_ready (rs := [0, 7]) (by kernel_rfl) (by simp) ?_
        refine AllReadyH.cons rfl (fun K hK => ?_) (AllReadyH.cons rfl (fun K hK => ?_) AllReadyH.nil)
        · go_simp
          have HBA := Sd.mk (below_one W5 (.cells #[] 47))
          have s6 := HCE.out _ HBA.out
          (refine hK.out _ _ s6 (fun hHeld => ?_); (clear hK K; try simp only [List.getElem_toArray, List.getElem_cons_succ, List.getElem_cons_zero, Act.put, List.setIfInBounds_toArray, List.set_cons_zero, List.set_cons_succ]))
          clear s6
          have HE0 := Sd.mk (own_emptyR W5 47)
          refine wpAnyH_ready (rs := [2, 7]) (by kernel_rfl) (by simp) ?_
          refine AllReadyH.cons rfl (fun K hK => ?_) (AllReadyH.cons rfl (fun K hK => ?_) AllReadyH.nil)
          · (refine step_appends_at (d := rqN) (f := fR) (n := 3) (fun _ _ _ => Iff.rfl) rfl (fun _ => rfl) fR_one rfl (.tmp 16) (.tmp 17) 33 47 (.agg #[.int .i64 0, .int .i64 0, .string ByteArray.empty]) 32 rfl Try.underlying33 info_rq rfl (by decide) (.slice (some ⟨_, 0, none⟩) 0 0) [] out B k d HKL.out rfl rfl (HRW.out.below HBA.out) HNC.out HE0.out (by have := HKL.out; simp only [List.length_nil]; omega) (by have := HKL.out; simp only [List.length_nil]; omega) ?_; intro v1 w1 hown hg hob; rw [List.nil_append] at hown; obtain ⟨A6, q6, rfl⟩ := OwnR.slice hown; rw [← HKL.out] at hown hob ⊢; have HO1 := Sd.mk hown; have HGX := Sd.mk hg; have HB1 := Sd.mk (below_grown HBA.out hg HBA.out.size (fun j e => by simp [Value.ownBlock] at e; omega)); have HQ1 := Sd.mk (show ∀ j, (Value.slice A6 k q6).ownBlock = some j → W5.heap.size ≤ j from fun j hj => by (have := HBA.out.size; rcases hob with e2 | e2; (rw [hj] at e2; simp [Value.ownBlock] at e2; omega); (rw [hj] at e2; simp at e2; omega))); clear hown hg hob)
            have s6 := HCE.out _ HB1.out
            (refine hK.out _ _ s6 (fun hHeld => ?_); (clear hK K; try simp only [List.getElem_toArray, List.getElem_cons_succ, List.getElem_cons_zero, Act.put, List.setIfInBounds_toArray, List.set_cons_zero, List.set_cons_succ]))
            clear s6
            (refine wpAnyH_ready (rs := [7]) (by kernel_rfl) (by simp) ?_; refine AllReadyH.cons rfl (fun K hK => ?_) AllReadyH.nil)
            go_simp
            have HB2 := Sd.mk (below_then HB1.out (below_one w1 (.cells #[.int .i64 x.c, .int .i64 x.s, .string x.b] 47)))
            have HO2 := Sd.mk (HO1.out.below (below_one w1 (.cells #[.int .i64 x.c, .int .i64 x.s, .string x.b] 47)))
            have HY1 := Sd.mk (row_rq1 (blk_new w1 (.cells #[.int .i64 x.c, .int .i64 x.s, .string x.b] 47)))
            have s6 := HCE.out _ HB2.out
            (refine hK.out _ _ s6 (fun hHeld => ?_); (clear hK K; try simp only [List.getElem_toArray, List.getElem_cons_succ, List.getElem_cons_zero, Act.put, List.setIfInBounds_toArray, List.set_cons_zero, List.set_cons_succ]))
            clear s6
            (refine wpAnyH_ready (rs := [8]) (by kernel_rfl) (by simp) ?_; refine AllReadyH.cons rfl (fun K hK => ?_) AllReadyH.nil)
            (refine step_appends_at (d := rqN) (f := fR) (n := 3) (fun _ _ _ => Iff.rfl) rfl (fun _ => rfl) fR_one rfl (.tmp 18) (.tmp 23) 33 47 (.agg #[.int .i64 0, .int .i64 0, .string ByteArray.empty]) 32 rfl Try.underlying33 info_rq rfl (by decide) (.slice A6 k q6) out [x] _ 1 1 rfl rfl rfl HY1.out (fun e => by cases e) HO2.out (by have := HKL.out; simp only [List.length_cons, List.length_nil]; omega) (by have := HKL.out; simp only [List.length_cons, List.length_nil]; omega) ?_; intro v2 w2 hown hg hob; have HB7 := Sd.mk (below_grown HB2.out hg HB2.out.size (fun j e => HQ1.out j e)); have HTW := Sd.mk (HTC.out w2 v2 hown); obtain ⟨A7, q7, rfl⟩ := OwnR.slice hown; have hl7 : (out ++ [x]).length = k + 1 := (by rw [List.length_append, ← HKL.out]; rfl); rw [hl7] at hob HTW ⊢; clear hown hg hob hl7; have s7 := HCE.out _ HB7.out; (refine hK.out _ _ s7 (fun hHeld => ?_); (clear hK K; try simp only [List.getElem_toArray, List.getElem_cons_succ, List.getElem_cons_zero, Act.put, List.setIfInBounds_toArray, List.set_cons_zero, List.set_cons_succ])))
            (refine wpAnyH_ready (rs := [9]) (by kernel_rfl) (by simp) ?_; refine AllReadyH.cons rfl (fun K hK => ?_) AllReadyH.nil; go_simp; go_at_call 59; refine (HTW.out A7 (k + 1) q7 rfl).mono ?_; rintro e w8 ⟨rfl, hb8⟩; have HB8 := Sd.mk (below_then HB7.out hb8); clear hb8; have s8 := HCE.out _ HB8.out; (refine hK.out _ _ s8 (fun hHeld => ?_); (clear hK K; try simp only [List.getElem_toArray, List.getElem_cons_succ, List.getElem_cons_zero, Act.put, List.setIfInBounds_toArray, List.set_cons_zero, List.set_cons_succ])))
            (refine wpAnyH_done (by kernel_rfl) ?_ _; simp only [Peel.Qn, List.drop_succ_cons, List.drop_zero]; clear hHeld)
            have HRO8 := Sd.mk (HRO.out.below HB8.out)
            obtain ⟨t0, t1, t2⟩ := s8
            clear HRO HRW HCE HTC HBA HB1 HB2 HB7 HB8 HO1 HO2 HY1 HE0 HGX HQ1 HTW hHeld s7
            cases r with
            | true =>
              have HF2 := Sd.mk (show fi l (i + 1) = out from HFY.out rfl)
              go_wp2
              go_roundg (gk - 1)
              case measure => omega
              case rel => exact ⟨i + 1, B, k, d, by omega, by omega, rfl, by go_num, ⟨by rw [HF2.out]; exact HKL.out.symm⟩, ⟨by rw [HF2.out]; exact HRO8.out⟩⟩
            | false =>
              have HF2 := Sd.mk (show fi l (i + 1) = out ++ [x] from HFN.out rfl)
              go_wp2_with (first
                | (at_builtin; refine append_at (f := fR) (n := 3) (fun _ => rfl) fR_one rfl (.tmp 27) (.tmp 32) 33 47 (.agg #[.int .i64 0, .int .i64 0, .string ByteArray.empty]) 32 rfl Try.underlying33 info_rq rfl (by decide) (.slice B k d) out x rfl rfl HRO8.out.own (by rw [← HKL.out]; omega) (by rw [← HKL.out]; omega) ?_; intro v9 w9 hown hg hob; have HB9 := Sd.mk (below_grown HRO8.out.bel hg HRO8.out.bel.size HRO8.out.new); obtain ⟨A9, q9, rfl⟩ := OwnR.slice hown; have hl9 : (out ++ [x]).length = k + 1 := (by rw [List.length_append, ← HKL.out]; rfl); rw [hl9] at hown hob ⊢; have HO9 := Sd.mk hown; have HQ9 := Sd.mk (show ∀ j, (Value.slice A9 (k + 1) q9).ownBlock = some j → w.heap.size ≤ j from fun j hj => (by rcases hob with e2 | e2; (rw [hj] at e2; exact HRO8.out.new j e2.symm); (rw [hj] at e2; have := Option.some.inj e2; have := HRO8.out.bel.size; omega))); clear hown hg hob))
              go_roundg (gk - 1)
              case measure => omega
              case rel => exact ⟨i + 1, A9, k + 1, q9, by omega, by omega, rfl, by go_num, ⟨by rw [HF2.out, hl9]⟩, ⟨by rw [HF2.out]; exact ⟨HO9.out, HQ9.out, HB9.out⟩⟩⟩
          · go_simp
            have HB6 := Sd.mk (below_then (below_one W5 (.cells #[] 47)) (below_one _ (.cells #[.int .i64 x.c, .int .i64 x.s, .string x.b] 47)))
            have s6 := HCE.out _ HB6.out
            (refine hK.out _ _ s6 (fun hHeld => ?_); (clear hK K; try simp only [List.getElem_toArray, List.getElem_cons_succ, List.getElem_cons_zero, Act.put, List.setIfInBounds_toArray, List.set_cons_zero, List.set_cons_succ]))
            clear s6 HBA
            (refine wpAnyH_ready (rs := [2]) (by kernel_rfl) (by simp) ?_; refine AllReadyH.cons rfl (fun K hK => ?_) AllReadyH.nil)
            have HBA := HB6
            have HE0 := Sd.mk ((own_emptyR W5 47).below (below_one _ (.cells #[.int .i64 x.c, .int .i64 x.s, .string x.b] 47)))
            (refine step_appends_at (d := rqN) (f := fR) (n := 3) (fun _ _ _ => Iff.rfl) rfl (fun _ => rfl) fR_one rfl (.tmp 16) (.tmp 17) 33 47 (.agg #[.int .i64 0, .int .i64 0, .string ByteArray.empty]) 32 rfl Try.underlying33 info_rq rfl (by decide) (.slice (some ⟨_, 0, none⟩) 0 0) [] out B k d HKL.out rfl rfl (HRW.out.below HBA.out) HNC.out HE0.out (by have := HKL.out; simp only [List.length_nil]; omega) (by have := HKL.out; simp only [List.length_nil]; omega) ?_; intro v1 w1 hown hg hob; rw [List.nil_append] at hown; obtain ⟨A6, q6, rfl⟩ := OwnR.slice hown; rw [← HKL.out] at hown hob ⊢; have HO1 := Sd.mk hown; have HGX := Sd.mk hg; have HB1 := Sd.mk (below_grown HBA.out hg HBA.out.size (fun j e => by simp [Value.ownBlock] at e; omega)); have HQ1 := Sd.mk (show ∀ j, (Value.slice A6 k q6).ownBlock = some j → W5.heap.size ≤ j from fun j hj => by (have := HBA.out.size; rcases hob with e2 | e2; (rw [hj] at e2; simp [Value.ownBlock] at e2; omega); (rw [hj] at e2; simp at e2; omega))); clear hown hg hob)
            have HB2 := HB1
            have HO2 := HO1
            have HY1 := Sd.mk (show Row rqN w1 (some ⟨W5.heap.size + 1, 0, none⟩) [x] from by rw [← show (W5.alloc (.cells #[] 47)).heap.size = W5.heap.size + 1 by simp]; exact row_rq1 (blk_grown (blk_new (W5.alloc (.cells #[] 47)) (.cells #[.int .i64 x.c, .int .i64 x.s, .string x.b] 47)) HGX.out (by simp [Value.ownBlock])))
            have s6 := HCE.out _ HB2.out
            (refine hK.out _ _ s6 (fun hHeld => ?_); (clear hK K; try simp only [List.getElem_toArray, List.getElem_cons_succ, List.getElem_cons_zero, Act.put, List.setIfInBounds_toArray, List.set_cons_zero, List.set_cons_succ]))
            clear s6 HB6
            (refine wpAnyH_ready (rs := [8]) (by kernel_rfl) (by simp) ?_; refine AllReadyH.cons rfl (fun K hK => ?_) AllReadyH.nil)
            (refine step_appends_at (d := rqN) (f := fR) (n := 3) (fun _ _ _ => Iff.rfl) rfl (fun _ => rfl) fR_one rfl (.tmp 18) (.tmp 23) 33 47 (.agg #[.int .i64 0, .int .i64 0, .string ByteArray.empty]) 32 rfl Try.underlying33 info_rq rfl (by decide) (.slice A6 k q6) out [x] _ 1 1 rfl rfl rfl HY1.out (fun e => by cases e) HO2.out (by have := HKL.out; simp only [List.length_cons, List.length_nil]; omega) (by have := HKL.out; simp only [List.length_cons, List.length_nil]; omega) ?_; intro v2 w2 hown hg hob; have HB7 := Sd.mk (below_grown HB2.out hg HB2.out.size (fun j e => HQ1.out j e)); have HTW := Sd.mk (HTC.out w2 v2 hown); obtain ⟨A7, q7, rfl⟩ := OwnR.slice hown; have hl7 : (out ++ [x]).length = k + 1 := (by rw [List.length_append, ← HKL.out]; rfl); rw [hl7] at hob HTW ⊢; clear hown hg hob hl7; have s7 := HCE.out _ HB7.out; (refine hK.out _ _ s7 (fun hHeld => ?_); (clear hK K; try simp only [List.getElem_toArray, List.getElem_cons_succ, List.getElem_cons_zero, Act.put, List.setIfInBounds_toArray, List.set_cons_zero, List.set_cons_succ])))
            (refine wpAnyH_ready (rs := [9]) (by kernel_rfl) (by simp) ?_; refine AllReadyH.cons rfl (fun K hK => ?_) AllReadyH.nil; go_simp; go_at_call 59; refine (HTW.out A7 (k + 1) q7 rfl).mono ?_; rintro e w8 ⟨rfl, hb8⟩; have HB8 := Sd.mk (below_then HB7.out hb8); clear hb8; have s8 := HCE.out _ HB8.out; (refine hK.out _ _ s8 (fun hHeld => ?_); (clear hK K; try simp only [List.getElem_toArray, List.getElem_cons_succ, List.getElem_cons_zero, Act.put, List.setIfInBounds_toArray, List.set_cons_zero, List.set_cons_succ])))
            (refine wpAnyH_done (by kernel_rfl) ?_ _; simp only [Peel.Qn, List.drop_succ_cons, List.drop_zero]; clear hHeld)
            have HRO8 := Sd.mk (HRO.out.below HB8.out)
            obtain ⟨t0, t1, t2⟩ := s8
            clear HRO HRW HCE HTC HBA HB1 HB2 HB7 HB8 HO1 HO2 HY1 HE0 HGX HQ1 HTW hHeld s7
            cases r with
            | true =>
              have HF2 := Sd.mk (show fi l (i + 1) = out from HFY.out rfl)
              go_wp2
              go_roundg (gk - 1)
              case measure => omega
              case rel => exact ⟨i + 1, B, k, d, by omega, by omega, rfl, by go_num, ⟨by rw [HF2.out]; exact HKL.out.symm⟩, ⟨by rw [HF2.out]; exact HRO8.out⟩⟩
            | false =>
              have HF2 := Sd.mk (show fi l (i + 1) = out ++ [x] from HFN.out rfl)
              go_wp2_with (first
                | (at_builtin; refine append_at (f := fR) (n := 3) (fun _ => rfl) fR_one rfl (.tmp 27) (.tmp 32) 33 47 (.agg #[.int .i64 0, .int .i64 0, .string ByteArray.empty]) 32 rfl Try.underlying33 info_rq rfl (by decide) (.slice B k d) out x rfl rfl HRO8.out.own (by rw [← HKL.out]; omega) (by rw [← HKL.out]; omega) ?_; intro v9 w9 hown hg hob; have HB9 := Sd.mk (below_grown HRO8.out.bel hg HRO8.out.bel.size HRO8.out.new); obtain ⟨A9, q9, rfl⟩ := OwnR.slice hown; have hl9 : (out ++ [x]).length = k + 1 := (by rw [List.length_append, ← HKL.out]; rfl); rw [hl9] at hown hob ⊢; have HO9 := Sd.mk hown; have HQ9 := Sd.mk (show ∀ j, (Value.slice A9 (k + 1) q9).ownBlock = some j → w.heap.size ≤ j from fun j hj => (by rcases hob with e2 | e2; (rw [hj] at e2; exact HRO8.out.new j e2.symm); (rw [hj] at e2; have := Option.some.inj e2; have := HRO8.out.bel.size; omega))); clear hown hg hob))
              go_roundg (gk - 1)
              case measure => omega
              case rel => exact ⟨i + 1, A9, k + 1, q9, by omega, by omega, rfl, by go_num, ⟨by rw [HF2.out, hl9]⟩, ⟨by rw [HF2.out]; exact ⟨HO9.out, HQ9.out, HB9.out⟩⟩⟩
        · go_simp
          have s6 := HCE.out _ (below_one W5 (.cells #[.int .i64 x.c, .int .i64 x.s, .string x.b] 47))
          (refine hK.out _ _ s6 (fun hHeld => ?_); (clear hK K; try simp only [List.getElem_toArray, List.getElem_cons_succ, List.getElem_cons_zero, Act.put, List.setIfInBounds_toArray, List.set_cons_zero, List.set_cons_succ]))
          clear s6
          (refine wpAnyH_ready (rs := [0]) (by kernel_rfl) (by simp) ?_; refine AllReadyH.cons rfl (fun K hK => ?_) AllReadyH.nil)
          go_simp
          have HB6 := Sd.mk (below_then (below_one W5 (.cells #[.int .i64 x.c, .int .i64 x.s, .string x.b] 47)) (below_one _ (.cells #[] 47)))
          have s6 := HCE.out _ HB6.out
          (refine hK.out _ _ s6 (fun hHeld => ?_); (clear hK K; try simp only [List.getElem_toArray, List.getElem_cons_succ, List.getElem_cons_zero, Act.put, List.setIfInBounds_toArray, List.set_cons_zero, List.set_cons_succ]))
          clear s6
          (refine wpAnyH_ready (rs := [2]) (by kernel_rfl) (by simp) ?_; refine AllReadyH.cons rfl (fun K hK => ?_) AllReadyH.nil)
          have HBA := HB6
          have HE0 := Sd.mk (show OwnR fR 3 ((W5.alloc (.cells #[.int .i64 x.c, .int .i64 x.s, .string x.b] 47)).alloc (.cells #[] 47)) 0 47 (.slice (some ⟨W5.heap.size + 1, 0, none⟩) 0 0) [] from by rw [← show (W5.alloc (.cells #[.int .i64 x.c, .int .i64 x.s, .string x.b] 47)).heap.size = W5.heap.size + 1 by simp]; exact own_emptyR (W5.alloc (.cells #[.int .i64 x.c, .int .i64 x.s, .string x.b] 47)) 47)
          (refine step_appends_at (d := rqN) (f := fR) (n := 3) (fun _ _ _ => Iff.rfl) rfl (fun _ => rfl) fR_one rfl (.tmp 16) (.tmp 17) 33 47 (.agg #[.int .i64 0, .int .i64 0, .string ByteArray.empty]) 32 rfl Try.underlying33 info_rq rfl (by decide) (.slice (some ⟨_, 0, none⟩) 0 0) [] out B k d HKL.out rfl rfl (HRW.out.below HBA.out) HNC.out HE0.out (by have := HKL.out; simp only [List.length_nil]; omega) (by have := HKL.out; simp only [List.length_nil]; omega) ?_; intro v1 w1 hown hg hob; rw [List.nil_append] at hown; obtain ⟨A6, q6, rfl⟩ := OwnR.slice hown; rw [← HKL.out] at hown hob ⊢; have HO1 := Sd.mk hown; have HGX := Sd.mk hg; have HB1 := Sd.mk (below_grown HBA.out hg HBA.out.size (fun j e => by simp [Value.ownBlock] at e; omega)); have HQ1 := Sd.mk (show ∀ j, (Value.slice A6 k q6).ownBlock = some j → W5.heap.size ≤ j from fun j hj => by (have := HBA.out.size; rcases hob with e2 | e2; (rw [hj] at e2; simp [Value.ownBlock] at e2; omega); (rw [hj] at e2; simp at e2; omega))); clear hown hg hob)
          have HB2 := HB1
          have HO2 := HO1
          have HY1 := Sd.mk (row_rq1 (blk_grown (blk_keep (blk_new W5 (.cells #[.int .i64 x.c, .int .i64 x.s, .string x.b] 47)) (below_one _ (.cells #[] 47))) HGX.out (by simp [Value.ownBlock])))
          have s6 := HCE.out _ HB2.out
          (refine hK.out _ _ s6 (fun hHeld => ?_); (clear hK K; try simp only [List.getElem_toArray, List.getElem_cons_succ, List.getElem_cons_zero, Act.put, List.setIfInBounds_toArray, List.set_cons_zero, List.set_cons_succ]))
          clear s6 HB6
          (refine wpAnyH_ready (rs := [8]) (by kernel_rfl) (by simp) ?_; refine AllReadyH.cons rfl (fun K hK => ?_) AllReadyH.nil)
          (refine step_appends_at (d := rqN) (f := fR) (n := 3) (fun _ _ _ => Iff.rfl) rfl (fun _ => rfl) fR_one rfl (.tmp 18) (.tmp 23) 33 47 (.agg #[.int .i64 0, .int .i64 0, .string ByteArray.empty]) 32 rfl Try.underlying33 info_rq rfl (by decide) (.slice A6 k q6) out [x] _ 1 1 rfl rfl rfl HY1.out (fun e => by cases e) HO2.out (by have := HKL.out; simp only [List.length_cons, List.length_nil]; omega) (by have := HKL.out; simp only [List.length_cons, List.length_nil]; omega) ?_; intro v2 w2 hown hg hob; have HB7 := Sd.mk (below_grown HB2.out hg HB2.out.size (fun j e => HQ1.out j e)); have HTW := Sd.mk (HTC.out w2 v2 hown); obtain ⟨A7, q7, rfl⟩ := OwnR.slice hown; have hl7 : (out ++ [x]).length = k + 1 := (by rw [List.length_append, ← HKL.out]; rfl); rw [hl7] at hob HTW ⊢; clear hown hg hob hl7; have s7 := HCE.out _ HB7.out; (refine hK.out _ _ s7 (fun hHeld => ?_); (clear hK K; try simp only [List.getElem_toArray, List.getElem_cons_succ, List.getElem_cons_zero, Act.put, List.setIfInBounds_toArray, List.set_cons_zero, List.set_cons_succ])))
          (refine wpAnyH_ready (rs := [9]) (by kernel_rfl) (by simp) ?_; refine AllReadyH.cons rfl (fun K hK => ?_) AllReadyH.nil; go_simp; go_at_call 59; refine (HTW.out A7 (k + 1) q7 rfl).mono ?_; rintro e w8 ⟨rfl, hb8⟩; have HB8 := Sd.mk (below_then HB7.out hb8); clear hb8; have s8 := HCE.out _ HB8.out; (refine hK.out _ _ s8 (fun hHeld => ?_); (clear hK K; try simp only [List.getElem_toArray, List.getElem_cons_succ, List.getElem_cons_zero, Act.put, List.setIfInBounds_toArray, List.set_cons_zero, List.set_cons_succ])))
          (refine wpAnyH_done (by kernel_rfl) ?_ _; simp only [Peel.Qn, List.drop_succ_cons, List.drop_zero]; clear hHeld)
          have HRO8 := Sd.mk (HRO.out.below HB8.out)
          obtain ⟨t0, t1, t2⟩ := s8
          clear HRO HRW HCE HTC HBA HB1 HB2 HB7 HB8 HO1 HO2 HY1 HE0 HGX HQ1 HTW hHeld s7
          cases r with
          | true =>
            have HF2 := Sd.mk (show fi l (i + 1) = out from HFY.out rfl)
            go_wp2
            go_roundg (gk - 1)
            case measure => omega
            case rel => exact ⟨i + 1, B, k, d, by omega, by omega, rfl, by go_num, ⟨by rw [HF2.out]; exact HKL.out.symm⟩, ⟨by rw [HF2.out]; exact HRO8.out⟩⟩
          | false =>
            have HF2 := Sd.mk (show fi l (i + 1) = out ++ [x] from HFN.out rfl)
            go_wp2_with (first
              | (at_builtin; refine append_at (f := fR) (n := 3) (fun _ => rfl) fR_one rfl (.tmp 27) (.tmp 32) 33 47 (.agg #[.int .i64 0, .int .i64 0, .string ByteArray.empty]) 32 rfl Try.underlying33 info_rq rfl (by decide) (.slice B k d) out x rfl rfl HRO8.out.own (by rw [← HKL.out]; omega) (by rw [← HKL.out]; omega) ?_; intro v9 w9 hown hg hob; have HB9 := Sd.mk (below_grown HRO8.out.bel hg HRO8.out.bel.size HRO8.out.new); obtain ⟨A9, q9, rfl⟩ := OwnR.slice hown; have hl9 : (out ++ [x]).length = k + 1 := (by rw [List.length_append, ← HKL.out]; rfl); rw [hl9] at hown hob ⊢; have HO9 := Sd.mk hown; have HQ9 := Sd.mk (show ∀ j, (Value.slice A9 (k + 1) q9).ownBlock = some j → w.heap.size ≤ j from fun j hj => (by rcases hob with e2 | e2; (rw [hj] at e2; exact HRO8.out.new j e2.symm); (rw [hj] at e2; have := Option.some.inj e2; have := HRO8.out.bel.size; omega))); clear hown hg hob))
            go_roundg (gk - 1)
            case measure => omega
            case rel => exact ⟨i + 1, A9, k + 1, q9, by omega, by omega, rfl, by go_num, ⟨by rw [HF2.out, hl9]⟩, ⟨by rw [HF2.out]; exact ⟨HO9.out, HQ9.out, HB9.out⟩⟩⟩
      · have hki : decide (k < 3) = false := decide_eq_false (by omega)
        have hki2 : decide ((k : Int) < 3) = false := decide_eq_false (by omega)
        have HE := Sd.mk (fi_end (l := l) (i := i) (by rw [← HN.out]; omega) (.inr (by rw [HK.out]; omega)))
        go_wp2
        go_ret
        exact ⟨_, rfl, by rw [HE.out]; exact HO.out⟩
    · have hii : decide (i < n) = false := decide_eq_false (by omega)
      have hii2 : decide ((i : Int) < (n : Int)) = false := decide_eq_false (by omega)
      have HE := Sd.mk (fi_end (l := l) (i := i) (by rw [← HN.out]; omega) (.inl ⟨by rw [← HN.out]; omega, by rw [HK.out]; exact hk3⟩))
      go_wp2
      go_ret
      exact ⟨_, rfl, by rw [HE.out]; exact HO.out⟩
end Go.Proofs.Ytnomgkmeomlccaa.Blk
