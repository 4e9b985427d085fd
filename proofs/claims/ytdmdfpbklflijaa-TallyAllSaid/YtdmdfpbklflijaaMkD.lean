/- Signatures compacted: walked. -/
import Derived.Test.YtdmdfpbklflijaaMkC
import Derived.Shelf.SlSortCmp.QuietGrown
import Derived.Lib.SliceRun
import Derived.BigFrame
import Derived.BigQuiet
import Derived.BigRegion
import Derived.Deep.CutRange
import Derived.Deep.RegionHeld3
set_option linter.unusedVariables false
set_option linter.unusedSimpArgs false
namespace Go.Proofs.Ytdmdfpbklflijaa.Mk
open Go.RowKit Go.Sort Go.Shelf Rd Api Own Mv App

theorem setMany_put (d : Array Raw) {p : Nat} (hp : p < d.size) (x : Raw) : setMany (flatK fS 2 d) (p * 2) (fS x) = flatK fS 2 (d.setIfInBounds p x) := by
  refine ext_get! (by simp) (fun t ht => ?_)
  rw [size_setMany, size_flatK] at ht
  rw [get_setMany _ _ _ _ (by rw [size_flatK]; exact ht), get_flatK fS 2 (d.setIfInBounds p x) t (by simpa using ht)]
  have hl : (fS x).length = 2 := rfl
  rw [hl]
  by_cases h : p * 2 ≤ t ∧ t < p * 2 + 2
  · rw [if_pos h]
    have e1 : t / 2 = p := by omega
    have e2 : t % 2 = t - p * 2 := by omega
    rw [e1, e2, getElem!_set_same d p x hp]
  · rw [if_neg h, get_flatK fS 2 d t ht]
    have e1 : t / 2 ≠ p := by omega
    congr 2
    rw [getElem!_pos (d.setIfInBounds p x) (t / 2) (by rw [Array.size_setIfInBounds]; omega), getElem!_pos d (t / 2) (by omega), Array.getElem_setIfInBounds (by omega), if_neg (fun h => e1 h.symm)]
theorem St.put {w : World} {B0 g : Nat} {d : Array Raw} {W : World} (h : St w B0 g d W) {p : Nat} (hp : p < d.size) (x : Raw) : St w B0 g (d.setIfInBounds p x) (W.setCells g (p * 2) (fS x)) := by
  refine ⟨?_, by rw [size_setCells]; exact h.lt, below_setCells h.ge _ _ _ h.bel, h.ge⟩
  have := holds_setCells_c (s := p * 2) (vs := fS x) h.row (by rw [size_flatK]; show p * 2 + 2 ≤ _; omega)
  rw [setMany_put d hp x, Nat.zero_add] at this
  exact this
theorem St.cells {w : World} {B0 g : Nat} {d : Array Raw} {W : World} (h : St w B0 g d W) {i : Nat} (hi : i < d.size) : W.cell? ⟨g, i * 2, none⟩ = some (.int .i64 d[i]!.f) ∧ W.cell? ⟨g, i * 2 + 1, none⟩ = some (.slice d[i]!.a d[i]!.n d[i]!.c) ∧ W.frozen? ⟨g, i * 2, none⟩ = false ∧ W.frozen? ⟨g, i * 2 + 1, none⟩ = false := by
  have h0 := HoldsK.cell h.row hi (c := 0) (by omega)
  have h1 := HoldsK.cell h.row hi (c := 1) (by omega)
  rw [Nat.zero_add] at h0 h1
  exact ⟨h0.1, h1.1, h0.2, h1.2⟩
theorem St.cellsG {w : World} {B0 g : Nat} {d : Array Raw} {W : World} (h : St w B0 g d W) {i : Nat} (hi : i < d.size) {x : Raw} (hx : d[i]! = x) {o : Nat} (ho : o = i * 2) : (∀ n os, (grow (W.drewN n) os).cell? ⟨g, o, none⟩ = some (.int .i64 x.f)) ∧ (∀ n os, (grow (W.drewN n) os).cell? ⟨g, o + 1, none⟩ = some (.slice x.a x.n x.c)) := by
  subst hx; subst ho
  exact ⟨fun n os => ((h.grown n os).cells hi).1, fun n os => ((h.grown n os).cells hi).2.1⟩
/-- amid the compacting -/
structure Ci (s : Array Raw) (j p : Nat) (dk : Array Raw) : Prop where
  size : dk.size = s.size
  len : (dif (s.toList.take j)).length = p
  low : ∀ (t : Nat) (x : Raw), (dif (s.toList.take j))[t]? = some x → dk[t]! = x
  high : ∀ t : Nat, j ≤ t + 1 → t < s.size → dk[t]! = s[t]!
theorem take_two (s : Array Raw) {j : Nat} (hj : j + 1 < s.size) : s.toList.take (j + 2) = s.toList.take j ++ [s[j]!] ++ [s[j + 1]!] := by
  rw [List.take_add_one, List.take_add_one, get_bang (by omega), get_bang hj]; rfl
theorem take_one (s : Array Raw) {j : Nat} (hj : j < s.size) : s.toList.take (j + 1) = s.toList.take j ++ [s[j]!] := by
  rw [List.take_add_one, get_bang hj]; rfl
theorem dif_no {s : Array Raw} {j : Nat} (hj : j + 1 < s.size) (h : s[j + 1]!.f = s[j]!.f) : dif (s.toList.take (j + 2)) = dif (s.toList.take (j + 1)) := by
  rw [take_two s hj, dif_snoc, if_pos h, ← take_one s (by omega)]
theorem dif_yes {s : Array Raw} {j : Nat} (hj : j + 1 < s.size) (h : s[j + 1]!.f ≠ s[j]!.f) : dif (s.toList.take (j + 2)) = dif (s.toList.take (j + 1)) ++ [s[j + 1]!] := by
  rw [take_two s hj, dif_snoc, if_neg h, ← take_one s (by omega)]
theorem Ci.no {s dk : Array Raw} {j p : Nat} (h : Ci s (j + 1) p dk) (hj : j + 1 < s.size) (he : s[j + 1]!.f = s[j]!.f) : Ci s (j + 2) p dk :=
  ⟨h.size, by rw [dif_no hj he]; exact h.len, fun t x hx => h.low t x (by rw [dif_no hj he] at hx; exact hx), fun t ht hs => h.high t (by omega) hs⟩
theorem Ci.yes {s dk : Array Raw} {j p : Nat} (h : Ci s (j + 1) p dk) (hj : j + 1 < s.size) (he : s[j + 1]!.f ≠ s[j]!.f) (hp : p ≤ j) : Ci s (j + 2) (p + 1) (dk.setIfInBounds p s[j + 1]!) := by
  have hps : p < dk.size := by rw [h.size]; omega
  have oth : ∀ t, t ≠ p → t < dk.size → (dk.setIfInBounds p s[j + 1]!)[t]! = dk[t]! := fun t ht hs => by
    rw [getElem!_pos _ t (by simpa using hs), getElem!_pos dk t hs, Array.getElem_setIfInBounds hs, if_neg (fun h => ht h.symm)]
  refine ⟨by simp [h.size], by rw [dif_yes hj he, List.length_append, h.len]; rfl, fun t x hx => ?_, fun t ht hs => ?_⟩
  · rw [dif_yes hj he, List.getElem?_append, h.len] at hx
    split at hx
    · rename_i hlt
      rw [oth t (by omega) (by omega)]
      exact h.low t x hx
    · rename_i hlt
      have : t = p := by
        rcases Nat.lt_or_ge (t - p) 1 with e | e
        · omega
        · rw [List.getElem?_eq_none (by simpa using e)] at hx; cases hx
      subst this
      rw [Nat.sub_self] at hx
      cases hx
      exact getElem!_set_same dk t _ hps
  · rw [oth t (by omega) (by rw [h.size]; exact hs)]
    exact h.high t (by omega) hs
theorem ci_start {s : Array Raw} {k : Nat} (hk : k + 1 < s.size) (h : dif (s.toList.take (k + 1)) = s.toList.take (k + 1)) (he : s[k + 1]!.f = s[k]!.f) : Ci s (k + 2) (k + 1) s := by
  refine ⟨rfl, by rw [dif_no hk he, h, List.length_take, Array.length_toList]; omega, fun t x hx => ?_, fun t _ _ => rfl⟩
  rw [dif_no hk he, h, List.getElem?_take] at hx
  split at hx
  · rw [get_bang (by omega)] at hx; exact Option.some.inj hx
  · cases hx
theorem dif_no' {s : Array Raw} {k : Nat} (h1 : 1 ≤ k) (hk : k < s.size) (h : s[k]!.f = s[k - 1]!.f) : dif (s.toList.take (k + 1)) = dif (s.toList.take k) := by
  obtain ⟨j, rfl⟩ : ∃ j, k = j + 1 := ⟨k - 1, by omega⟩
  exact dif_no hk h
theorem dif_yes' {s : Array Raw} {k : Nat} (h1 : 1 ≤ k) (hk : k < s.size) (h : s[k]!.f ≠ s[k - 1]!.f) : dif (s.toList.take (k + 1)) = dif (s.toList.take k) ++ [s[k]!] := by
  obtain ⟨j, rfl⟩ : ∃ j, k = j + 1 := ⟨k - 1, by omega⟩
  exact dif_yes hk h
theorem Ci.no' {s dk : Array Raw} {k p : Nat} (h : Ci s k p dk) (h1 : 1 ≤ k) (hk : k < s.size) (he : s[k]!.f = s[k - 1]!.f) : Ci s (k + 1) p dk := by
  obtain ⟨j, rfl⟩ : ∃ j, k = j + 1 := ⟨k - 1, by omega⟩
  exact h.no hk he
theorem Ci.yes' {s dk : Array Raw} {k p : Nat} (h : Ci s k p dk) (h1 : 1 ≤ k) (hk : k < s.size) (he : s[k]!.f ≠ s[k - 1]!.f) (hp : p < k) : Ci s (k + 1) (p + 1) (dk.setIfInBounds p s[k]!) := by
  obtain ⟨j, rfl⟩ : ∃ j, k = j + 1 := ⟨k - 1, by omega⟩
  exact h.yes hk he (by omega)
theorem ci_start' {s : Array Raw} {k : Nat} (h1 : 1 ≤ k) (hk : k < s.size) (h : dif (s.toList.take k) = s.toList.take k) (he : s[k]!.f = s[k - 1]!.f) : Ci s (k + 1) k s := by
  obtain ⟨j, rfl⟩ : ∃ j, k = j + 1 := ⟨k - 1, by omega⟩
  exact ci_start hk h he
/-- clear of a slice of elements of k cells -/
theorem run_clear_k {P : Program} (w : World) (t e : TypeId) (z : Value) (ht : P.underlying t = some (.slice e)) (hv : ∀ w, (zeroValue e).run P w = .ok z w) (k : Nat) (hz : z.cells.size = k) (h1 : ∀ v ∈ z.cells, v.oneCell' = true) (h0 : 0 < k) (b o n c : Nat) (hn : 0 < n)
    (hc : ∀ j, j < n * k → (w.cell? ⟨b, o + j, none⟩).isSome = true) (hf : ∀ j, j < n * k → w.frozen? ⟨b, o + j, none⟩ = false) :
    ∃ vs : List Value, vs.length = n * k ∧ ∀ ty, (Builtin.clear_ #[t] ty #[.slice (some ⟨b, o, none⟩) n c]).run P w = .ok (.tuple #[]) (w.setCells b o vs) := by
  have hl : (Builtin.zeroCells z.cells n).toList.length = n * k := by simp [Builtin.zeroCells, hz]
  have ho : ∀ v ∈ (Builtin.zeroCells z.cells n).toList, v.oneCell' = true := fun v hv' => by
    simp only [Builtin.zeroCells, Array.toList_map, List.mem_map] at hv'
    obtain ⟨i, _, rfl⟩ := hv'
    have hi : i % z.cells.size < z.cells.size := Nat.mod_lt _ (by omega)
    rw [getElem!_pos z.cells _ hi]
    exact h1 _ (Array.getElem_mem _)
  have hst := run_storeCells_cells (P := P) b o (Builtin.zeroCells z.cells n).toList 0 w (by rw [hl]; simpa using hc) (by rw [hl]; simpa using hf) ho
  refine ⟨_, hl, fun ty => ?_⟩
  simp only [Nat.add_zero] at hst
  obtain ⟨m, rfl⟩ : ∃ m, n = m + 1 := ⟨n - 1, by omega⟩
  simp [Builtin.clear_, run_underlying ht, hv, hst]
theorem zeroSig (w : World) : (zeroValue 39).run Try.prog w = .ok (.agg #[.int .i64 0, .slice none 0 0]) w := by kernel_rfl
set_option maxHeartbeats 8000000 in
set_option maxRecDepth 100000 in
theorem compact_any {w : World} {B0 g cap : Nat} {s : Array Raw} {W : World} (h : St w B0 g s W) (n : Nat) (hn : n = s.size) (h1000 : n ≤ 1000) (hcap : n ≤ cap) (hcap2 : cap ≤ 9223372036854775807) :
    Calls Try.prog 63 #[.slice (some ⟨g, 0, none⟩) n cap, .func (.func 64) #[] #[]] W fun e w' => ∃ p, e = .returned (.slice (some ⟨g, 0, none⟩) p cap) ∧ p = (dif s.toList).length ∧ p ≤ n ∧
      (∀ t x, (dif s.toList)[t]? = some x → w'.cell? ⟨g, t * 2, none⟩ = some (.int .i64 x.f) ∧ w'.cell? ⟨g, t * 2 + 1, none⟩ = some (.slice x.a x.n x.c)) ∧ Below B0 w w' := by
  have H := Sd.mk h
  have HN := Sd.mk hn
  clear h hn
  have mixed : Try.prog.follows .mixedOrders = true := by kernel_rfl
  have u22 := run_underlying Try.underlying22
  have a39 := Try.isAgg39
  have z39 := Try.sizeOf39
  have a3 := Try.isAgg3
  have z3 := Try.sizeOf3
  have u3 := run_underlying Try.underlying3
  have done : ∀ W1, St w B0 g s W1 → dif s.toList = s.toList → n = (dif s.toList).length ∧ (∀ t x, (dif s.toList)[t]? = some x → W1.cell? ⟨g, t * 2, none⟩ = some (.int .i64 x.f) ∧ W1.cell? ⟨g, t * 2 + 1, none⟩ = some (.slice x.a x.n x.c)) ∧ Below B0 w W1 := fun W1 h hd => by
    rw [hd]
    refine ⟨by rw [Array.length_toList]; exact HN.out, fun t x hx => ?_, h.bel⟩
    have ht : t < s.size := by have := (List.getElem?_eq_some_iff.1 hx).1; simpa using this
    rw [get_bang ht] at hx
    cases hx
    exact ⟨(h.cells ht).1, (h.cells ht).2.1⟩
  have HDN := Sd.mk done
  clear done
  by_cases h2 : n < 2
  · have d0 : decide ((n : Int) < 2) = true := decide_eq_true (by omega)
    have d0b : decide (n < 2) = true := decide_eq_true h2
    have HD := Sd.mk (show dif s.toList = s.toList by
      have hl : s.toList.length < 2 := by rw [Array.length_toList, ← HN.out]; exact h2
      match hs : s.toList with
      | [] => rfl
      | [x] => rfl
      | x :: y :: r => rw [hs] at hl; simp at hl; omega)
    go_enter Try.func63, Try.ntmps63
    go_wp2
    go_ret
    obtain ⟨h1, h3, h4⟩ := HDN.out _ H.out HD.out
    exact ⟨n, rfl, h1, Nat.le_refl _, h3, h4⟩
  · have d0 : decide ((n : Int) < 2) = false := decide_eq_false (by omega)
    have d0b : decide (n < 2) = false := decide_eq_false h2
    go_enter Try.func63, Try.ntmps63
    go_wp2
    go_loopg [5, 6, 7] (n - 1) (fun gk v5 v6 v7 wr => ∃ k, 1 ≤ k ∧ k + gk = n ∧ v5 = .int .i64 (k : Nat) ∧ Sd (dif (s.toList.take k) = s.toList.take k) ∧ Sd (St w B0 g s wr))
    case atStart => exact ⟨1, by omega, by omega, rfl, ⟨by rw [take_one s (by rw [← HN.out]; omega)]; rfl⟩, H⟩
    case round =>
      clear H
      obtain ⟨k, hk1, hk, rfl, HD, H⟩ := hrel
      by_cases hlt : k < n
      · have hki : (k : Int) < n := by omega
        have hks : k < s.size := by rw [← HN.out]; exact hlt
        obtain ⟨x, hx⟩ : ∃ x, s[k - 1]! = x := ⟨_, rfl⟩
        obtain ⟨y, hy⟩ : ∃ y, s[k]! = y := ⟨_, rfl⟩
        obtain ⟨kp, hkp⟩ : ∃ kp, kp = k - 1 := ⟨_, rfl⟩
        have hwp : IntKind.i64.wrap ((k : Int) - 1) = (kp : Nat) := by rw [IntKind.wrap_i64]; omega
        have hkpn : (kp : Int) < n := by omega
        have hkpn2 : kp < n := by omega
        obtain ⟨c0, c1⟩ := H.out.cellsG (show k - 1 < s.size by omega) hx (show kp * 2 = (k - 1) * 2 by rw [hkp])
        clear hkp
        obtain ⟨c2, c3⟩ := H.out.cellsG hks hy rfl
        have HXY := Sd.mk (⟨hx, hy⟩ : s[k - 1]! = x ∧ s[k]! = y)
        have HKS := Sd.mk hks
        clear hx hy hks
        obtain ⟨r, hr⟩ : ∃ r, (y.f == x.f) = r := ⟨_, rfl⟩
        have HR := Sd.mk hr
        clear hr
        go_upto_region 6 with (fail)
        go_quiet_grown (first | (go_at_call 64; refine Calls.grown_of (make2_any y x _ r HR.out)))
        have H2 := Sd.mk (H.out.grown nq osq)
        clear c0 c1 c2 c3 H
        generalize grow (wr.drewN nq) osq = W1 at H2 ⊢
        cases r with
        | false =>
          have HD2 := Sd.mk (show dif (s.toList.take (k + 1)) = s.toList.take (k + 1) by
            have hf : s[k]!.f ≠ s[k - 1]!.f := by rw [HXY.out.1, HXY.out.2]; exact beq_eq_false_iff_ne.1 HR.out
            rw [dif_yes' hk1 HKS.out hf, HD.out, ← take_one s HKS.out])
          go_wp2
          go_roundg (gk - 1)
          case measure => omega
          case rel => exact ⟨k + 1, by omega, by omega, by go_num, HD2, H2⟩
        | true =>
          have HCI := Sd.mk (ci_start' hk1 HKS.out HD.out (by rw [HXY.out.1, HXY.out.2]; exact eq_of_beq HR.out))
          have hkc : k ≤ cap := by omega
          have hkn : k ≤ n := by omega
          have hknc : n - k ≤ cap - k := by omega
          go_wp2
          go_loopg [5, 7] (n - (k + 1)) (fun gk v5 v7 wr => ∃ p k2 dk, 1 ≤ k2 ∧ k + k2 + gk = n ∧ p < k + k2 ∧ v5 = .int .i64 (p : Nat) ∧ v7 = .int .i64 (k2 : Nat) ∧ Sd (Ci s (k + k2) p dk) ∧ Sd (St w B0 g dk wr))
          case atStart => exact ⟨k, 1, s, by omega, by omega, by omega, rfl, rfl, HCI, H2⟩
          case round =>
            clear HCI H2 HXY HR
            obtain ⟨p, k2, dk, hk21, hkg, hpj, rfl, rfl, HC, H⟩ := hrel
            by_cases hlt2 : k2 < n - k
            · have hjs : k + k2 < s.size := by rw [← HN.out]; omega
              have hjd : k + k2 < dk.size := by rw [HC.out.size]; exact hjs
              obtain ⟨x, hx⟩ : ∃ x, s[k + k2 - 1]! = x := ⟨_, rfl⟩
              obtain ⟨y, hy⟩ : ∃ y, s[k + k2]! = y := ⟨_, rfl⟩
              have hxd : dk[k + k2 - 1]! = x := by rw [HC.out.high (k + k2 - 1) (by omega) (by omega)]; exact hx
              have hyd : dk[k + k2]! = y := by rw [HC.out.high (k + k2) (by omega) hjs]; exact hy
              obtain ⟨kp2, hkp⟩ : ∃ kp, kp = k2 - 1 := ⟨_, rfl⟩
              have hwp2 : IntKind.i64.wrap ((k2 : Int) - 1) = (kp2 : Nat) := by rw [IntKind.wrap_i64]; omega
              have q0 : (k2 : Int) < ((n - k : Nat) : Int) := by omega
              have q1 : (kp2 : Int) < ((n - k : Nat) : Int) := by omega
              have q0b : (k2 : Int) < (n : Int) - (k : Int) := by omega
              have q1b : (kp2 : Int) < (n : Int) - (k : Int) := by omega
              have q2 : kp2 < n - k := by omega
              have hpn : (p : Int) < n := by omega
              have hpn2 : p < n := by omega
              obtain ⟨c0, c1⟩ := H.out.cellsG (show k + k2 - 1 < dk.size by omega) hxd (show k * 2 + kp2 * 2 = (k + k2 - 1) * 2 by rw [hkp]; omega)
              obtain ⟨c2, c3⟩ := H.out.cellsG hjd hyd (show k * 2 + k2 * 2 = (k + k2) * 2 by omega)
              have HXY := Sd.mk (⟨hx, hy⟩ : s[k + k2 - 1]! = x ∧ s[k + k2]! = y)
              have HJS := Sd.mk hjs
              have HYD := Sd.mk (⟨hjd, hyd⟩ : k + k2 < dk.size ∧ dk[k + k2]! = y)
              clear hx hy hxd hyd hkp hjs hjd
              obtain ⟨r, hr⟩ : ∃ r, (y.f == x.f) = r := ⟨_, rfl⟩
              have HR := Sd.mk hr
              clear hr
              go_upto_region 11 with (fail)
              go_quiet_grown (first | (go_at_call 64; refine Calls.grown_of (make2_any y x _ r HR.out)))
              have H2 := Sd.mk (H.out.grown nq osq)
              clear c0 c1 c2 c3 H
              generalize grow (wr.drewN nq) osq = W2 at H2 ⊢
              cases r with
              | true =>
                have HC2 := Sd.mk (HC.out.no' (by omega) HJS.out (by rw [HXY.out.1, HXY.out.2]; exact eq_of_beq HR.out))
                go_wp2
                go_roundg (gk - 1)
                case measure => omega
                case rel => exact ⟨p, k2 + 1, dk, by omega, by omega, by omega, rfl, by go_num, HC2, H2⟩
              | false =>
                have HC2 := Sd.mk (HC.out.yes' (by omega) HJS.out (by rw [HXY.out.1, HXY.out.2]; exact beq_eq_false_iff_ne.1 HR.out) hpj)
                obtain ⟨c2, c3, -, -⟩ := H2.out.cells HYD.out.1
                rw [HYD.out.2, show (k + k2) * 2 = k * 2 + k2 * 2 by omega] at c2 c3
                obtain ⟨o0, o1, f0, f1⟩ := H2.out.cells (show p < dk.size by have := HYD.out.1; omega)
                generalize dk[p]! = z at o0 o1
                have H3 := Sd.mk (H2.out.put (p := p) (by have := HYD.out.1; omega) y)
                have HC3 := Sd.mk (show Ci s (k + (k2 + 1)) (p + 1) (dk.setIfInBounds p y) by have := HC2.out; rw [HXY.out.2] at this; exact this)
                clear HC2 HC H2
                go_wp2
                go_roundg (gk - 1)
                case measure => omega
                case rel => exact ⟨p + 1, k2 + 1, dk.setIfInBounds p y, by omega, by omega, by omega, by go_num, by go_num, HC3, H3⟩
            · have hq : decide (k2 < n - k) = false := decide_eq_false hlt2
              have hq2 : decide ((k2 : Int) < ((n - k : Nat) : Int)) = false := decide_eq_false (by omega)
              have hq3 : decide ((k2 : Int) < (n : Int) - (k : Int)) = false := decide_eq_false (by omega)
              have hke : k + k2 = n := by omega
              have hpn : p < n := by omega
              have hpc : p ≤ cap := by omega
              have hpn2 : p ≤ n := by omega
              have HE := Sd.mk (show s.toList.take (k + k2) = s.toList from List.take_of_length_le (by rw [Array.length_toList, ← HN.out]; omega))
              have hdn : dk.size = n := by rw [HC.out.size]; exact HN.out.symm
              obtain ⟨vs, hvl, hcl⟩ := run_clear_k (P := Try.prog) wr 22 39 _ Try.underlying22 zeroSig 2 rfl (fun v hv => by simp [Value.cells] at hv; rcases hv with rfl | rfl <;> rfl) (by omega) g (p * 2) (n - p) (cap - p) (by omega)
                (fun j hj => by
                  have h := H.out.row (p * 2 + j) (by rw [size_flatK, hdn]; omega)
                  rw [Nat.zero_add] at h; rw [h.1]; rfl) (fun j hj => by
                  have h := H.out.row (p * 2 + j) (by rw [size_flatK, hdn]; omega)
                  rw [Nat.zero_add] at h; exact h.2)
              clear hvl hke hdn hlt2
              go_wp2
              go_ret
              have hlow : ∀ t x, (dif s.toList)[t]? = some x → t < p ∧ dk[t]! = x := fun t x hx => by
                rw [← HE.out] at hx
                have ht := (List.getElem?_eq_some_iff.1 hx).1
                rw [HC.out.len] at ht
                exact ⟨ht, HC.out.low t x hx⟩
              have hdn : dk.size = n := by rw [HC.out.size]; exact HN.out.symm
              refine ⟨p, rfl, by rw [← HE.out]; exact HC.out.len.symm, by omega, fun t x hx => ?_, below_setCells H.out.ge _ _ _ H.out.bel⟩
              obtain ⟨ht, rfl⟩ := hlow t x hx
              obtain ⟨h1, h3, -, -⟩ := H.out.cells (show t < dk.size by omega)
              exact ⟨by rw [World.cell?_setCells_out _ _ _ _ _ (fun _ _ => .inl (by show t * 2 < p * 2; omega))]; exact h1, by rw [World.cell?_setCells_out _ _ _ _ _ (fun _ _ => .inl (by show t * 2 + 1 < p * 2; omega))]; exact h3⟩
      · have hki : decide ((k : Int) < n) = false := decide_eq_false (by omega)
        have HE := Sd.mk (show dif s.toList = s.toList by have := HD.out; rwa [List.take_of_length_le (by rw [Array.length_toList, ← HN.out]; omega)] at this)
        go_wp2
        go_ret
        obtain ⟨h1, h3, h4⟩ := HDN.out _ H.out HE.out
        exact ⟨n, rfl, h1, Nat.le_refl _, h3, h4⟩
end Go.Proofs.Ytdmdfpbklflijaa.Mk
