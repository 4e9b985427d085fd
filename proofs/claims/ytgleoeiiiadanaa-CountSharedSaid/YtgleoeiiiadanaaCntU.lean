/- CountShared: walked. -/
import Derived.Test.YtgleoeiiiadanaaCntS
set_option linter.unusedVariables false
set_option linter.unusedSimpArgs false
namespace Go.Proofs.Ytgleoeiiiadanaa.Cnts
open Go.RowKit Rd Api _root_.Go.Proofs.Ytgleoeiiiadanaa.Own Mv Top Gat

theorem both_snoc {l y : List Int} {i : Nat} {x : Int} (h : l[i]? = some x) : both (l.take (i + 1)) y = both (l.take i) y + if x ∈ y then 1 else 0 := by
  rw [take_snoc h]; unfold both; rw [List.countP_append]; simp [List.countP_cons]
theorem both_len {ls xo yo : List Int} (hx : xo.Nodup) (hp : ls.Pairwise (· < ·)) (hm : ∀ x, x ∈ ls ↔ x ∈ xo ∧ x ∈ yo) : ls.length = both xo yo := by
  have hn : ls.Nodup := hp.imp (fun h e => by omega)
  have h : ls.Perm (xo.filter (fun x => decide (x ∈ yo))) := (List.perm_ext_iff_of_nodup hn (hx.filter _)).2 (fun x => by rw [hm, List.mem_filter]; simp)
  rw [h.length_eq]; unfold both; rw [List.countP_eq_length_filter]
theorem pair_at {ls : List Int} (hp : ls.Pairwise (· < ·)) {i : Nat} {x y : Int} (h0 : ls[i]? = some x) (h1 : ls[i + 1]? = some y) : x < y := by
  obtain ⟨a, rfl⟩ := List.getElem?_eq_some_iff.1 h0
  obtain ⟨b, rfl⟩ := List.getElem?_eq_some_iff.1 h1
  exact List.pairwise_iff_getElem.1 hp i (i + 1) a b (by omega)
theorem enough {xo yo ls : List Int} {n : Nat} (hn : 1 ≤ n) (hx : xo.Nodup) (hy : yo.Nodup) (h1 : ∀ x ∈ xo, 0 ≤ x ∧ x < (n : Int)) (h2 : ∀ x ∈ yo, 0 ≤ x ∧ x < (n : Int)) (hl : ls.length = both xo yo) (hq : n - fl n ≤ xo.length) (hq2 : n - fl n ≤ yo.length) : fl n < ls.length := by
  have := both_share hx hy h1 h2
  unfold fl at *
  omega
-- what stands behind the loops
structure Sh (w : World) (A B C : Option Addr) (ca cb cc : Nat) (xo yo ls : List Int) (W : World) : Prop where
  x : Sl (num .i64) W A ca xo
  y : Sl (num .i64) W B cb yo
  l : Sl (num .i64) W C cc ls
  bel : Below w.heap.size w W
theorem Sh.below {w : World} {A B C : Option Addr} {ca cb cc : Nat} {xo yo ls : List Int} {W W1 : World} (h : Sh w A B C ca cb cc xo yo ls W) (hb : Below W.heap.size W W1) : Sh w A B C ca cb cc xo yo ls W1 := ⟨h.x.below hb, h.y.below hb, h.l.below hb, below_then h.bel hb⟩
set_option maxHeartbeats 8000000 in
set_option maxRecDepth 100000 in
theorem shared_row (w : World) (A : Option Addr) (c : Nat) (a : List Int) (h1 : a.length ≤ c) (h2 : c ≤ maxLen) (h3 : Row (Rk.int .i64) w A a) (B : Option Addr) (d : Nat) (b : List Int) (g1 : b.length ≤ d) (g2 : d ≤ maxLen) (g3 : Row (Rk.int .i64) w B b) (n : Int) (hn : (Lit.int .i64 n).wf = true) :
    Calls Try.prog 4 #[.slice A a.length c, .slice B b.length d, .int .i64 n] w fun e w' => e = .returned (.bool true) ∧ Below w.heap.size w w' := by
  have HA := Sd.mk (⟨h1, by unfold maxLen at h2; omega, (row_num h3).1⟩ : Sl (num .i64) w A c a)
  have HB := Sd.mk (⟨g1, by unfold maxLen at g2; omega, (row_num g3).1⟩ : Sl (num .i64) w B d b)
  have HWA := Sd.mk (row_num h3).2
  have HWB := Sd.mk (row_num g3).2
  have H0 := Sd.mk (Below.refl w.heap.size w)
  have lca := Nat.le_trans HA.out.le HA.out.cap
  have lcb := Nat.le_trans HB.out.le HB.out.cap
  obtain ⟨la, hla⟩ : ∃ k, k = a.length := ⟨_, rfl⟩
  obtain ⟨lb, hlb⟩ : ∃ k, k = b.length := ⟨_, rfl⟩
  have HLA := Sd.mk hla
  have HLB := Sd.mk hlb
  have HWN := Sd.mk (show wfI n from hn)
  have n1 := (i64_of hn).1
  have n2 := (i64_of hn).2
  rw [← hla] at lca ⊢
  rw [← hlb] at lcb ⊢
  clear h1 h2 h3 g1 g2 g3 hla hlb hn
  have small : ∀ (x : Nat), decide ((60 : Int) < (x : Int)) = decide (60 < x) := fun x => by rw [decide_eq_decide]; omega
  by_cases ha : 60 < la
  · have d0 : decide ((60 : Int) < (la : Int)) = true := decide_eq_true (by omega)
    have d0b : decide (60 < la) = true := decide_eq_true ha
    go_enter Try.func4, Try.ntmps4
    go_wp2_with (first
      | (go_at_call 13; (with_reducible refine (awake_any _).mono ?_); rintro e wa ⟨rfl, hwa⟩; obtain rfl := hwa.symm))
    go_ret
    exact ⟨rfl, H0.out⟩
  · have d0 : decide ((60 : Int) < (la : Int)) = false := decide_eq_false (by omega)
    have d0b : decide (60 < la) = false := decide_eq_false ha
    by_cases hb : 60 < lb
    · have e0 : decide ((60 : Int) < (lb : Int)) = true := decide_eq_true (by omega)
      have e0b : decide (60 < lb) = true := decide_eq_true hb
      go_enter Try.func4, Try.ntmps4
      go_wp2_with (first
        | (go_at_call 13; (with_reducible refine (awake_any _).mono ?_); rintro e wa ⟨rfl, hwa⟩; obtain rfl := hwa.symm))
      go_ret
      exact ⟨rfl, H0.out⟩
    · have e0 : decide ((60 : Int) < (lb : Int)) = false := decide_eq_false (by omega)
      have e0b : decide (60 < lb) = false := decide_eq_false hb
      by_cases hn20 : 20 < n
      · have f0 : decide (20 < n) = true := decide_eq_true hn20
        go_enter Try.func4, Try.ntmps4
        go_wp2_with (first
          | (go_at_call 13; (with_reducible refine (awake_any _).mono ?_); rintro e wa ⟨rfl, hwa⟩; obtain rfl := hwa.symm))
        go_ret
        exact ⟨rfl, H0.out⟩
      · have f0 : decide (20 < n) = false := decide_eq_false hn20
        obtain ⟨xo, hxo⟩ : ∃ z, onceF a n = z := ⟨_, rfl⟩
        obtain ⟨yo, hyo⟩ : ∃ z, onceF b n = z := ⟨_, rfl⟩
        obtain ⟨mx, hmx⟩ : ∃ z, xo.length = z := ⟨_, rfl⟩
        obtain ⟨my, hmy⟩ : ∃ z, yo.length = z := ⟨_, rfl⟩
        have HX := Sd.mk (hxo ▸ onceF_ok a n : xo.Nodup ∧ (∀ x, x ∈ xo ↔ x ∈ a ∧ 0 ≤ x ∧ x < n) ∧ xo.length ≤ a.length)
        have HY := Sd.mk (hyo ▸ onceF_ok b n : yo.Nodup ∧ (∀ x, x ∈ yo ↔ x ∈ b ∧ 0 ≤ x ∧ x < n) ∧ yo.length ≤ b.length)
        have HMX := Sd.mk hmx
        have HMY := Sd.mk hmy
        have mxl : mx ≤ 60 := by have := HX.out.2.2; rw [hmx, ← HLA.out] at this; omega
        have myl : my ≤ 60 := by have := HY.out.2.2; rw [hmy, ← HLB.out] at this; omega
        have CS := Sd.mk (fun (W : World) (hb : Below w.heap.size w W) => (show Calls Try.prog 18 #[.slice A la c, .slice B lb d, .int .i64 n] W fun e w' => ∃ A' k c' ls, e = .returned (.slice A' k c') ∧ k = ls.length ∧ Sl (num .i64) w' A' c' ls ∧ ls.Pairwise (· < ·) ∧ (∀ x, x ∈ ls ↔ x ∈ xo ∧ x ∈ yo) ∧ Below W.heap.size W w' from by
          subst hxo; subst hyo; exact shared_any W A B c d a b (HA.out.below hb) (HB.out.below hb) HWA.out HWB.out la lb HLA.out HLB.out (by omega) (by omega) n HWN.out))
        have OX := Sd.mk (fun (W : World) (hb : Below w.heap.size w W) => (show Calls Try.prog 16 #[.slice A la c, .int .i64 n] W fun e w' => ∃ B d, e = .returned (.slice B mx d) ∧ Sl (num .i64) w' B d xo ∧ Below W.heap.size W w' from by
          subst hxo; exact refonce_sl W A c a (HA.out.below hb) la HLA.out (by omega) n mx hmx))
        have OY := Sd.mk (fun (W : World) (hb : Below w.heap.size w W) => (show Calls Try.prog 16 #[.slice B lb d, .int .i64 n] W fun e w' => ∃ B d, e = .returned (.slice B my d) ∧ Sl (num .i64) w' B d yo ∧ Below W.heap.size W w' from by
          subst hyo; exact refonce_sl W B d b (HB.out.below hb) lb HLB.out (by omega) n my hmy))
        clear hxo hyo hmx hmy
        go_enter Try.func4, Try.ntmps4
        go_upto_region 5 with (first
          | (go_at_call 13; (with_reducible refine (awake_any _).mono ?_); rintro e wa ⟨rfl, hwa⟩; obtain rfl := hwa.symm)
          | (go_at_call 18; (with_reducible refine (CS.out _ H0.out).mono ?_); rintro e w1 ⟨C, k, cc, ls, rfl, hk, hsl, hpw, hmem, hb1⟩; have HK := Sd.mk hk; have HS1 := Sd.mk hsl; have HPW := Sd.mk hpw; have HMEM := Sd.mk hmem; have HB1 := Sd.mk (below_then H0.out hb1); clear hk hsl hpw hmem hb1)
          | (go_at_call 16; (with_reducible refine (OX.out _ HB1.out).mono ?_); rintro e w2 ⟨Ax, cx, rfl, hsx, hb2⟩; have HS2 := Sd.mk (⟨hsx, HS1.out.below hb2, below_then HB1.out hb2⟩ : Sl (num .i64) w2 Ax cx xo ∧ Sl (num .i64) w2 C cc ls ∧ Below w.heap.size w w2); clear hsx hb2)
          | (go_at_call 16; (with_reducible refine (OY.out _ HS2.out.2.2).mono ?_); rintro e w3 ⟨Ay, cy, rfl, hsy, hb3⟩; have HS3 := Sd.mk (⟨HS2.out.1.below hb3, hsy, HS2.out.2.1.below hb3, below_then HS2.out.2.2 hb3⟩ : Sh w Ax Ay C cx cy cc xo yo ls w3); clear hsy hb3))
        clear HS1 HS2 HB1 CS OX OY
        have HKB := Sd.mk (both_len HX.out.1 HPW.out HMEM.out)
        have hk60 : k ≤ 60 := by rw [HK.out, HKB.out]; have : both xo yo ≤ xo.length := List.countP_le_length; rw [HMX.out] at this; omega
        have lx := HS3.out.x.cap
        have ly := HS3.out.y.cap
        have ll := HS3.out.l.cap
        clear lca lcb ha hb d0 d0b e0 e0b
        go_wp2
        go_loopg [10, 11] mx (fun gk v10 v11 wr => ∃ i e, i + gk = mx ∧ e ≤ i ∧ v11 = .int .i64 (i : Nat) ∧ v10 = .int .i64 (e : Nat) ∧ Sd (e = both (xo.take i) yo) ∧ Sd (Sh w Ax Ay C cx cy cc xo yo ls wr))
        case atStart => exact ⟨0, 0, by omega, by omega, rfl, rfl, ⟨rfl⟩, HS3⟩
        case round =>
          clear HS3
          obtain ⟨i, q, hi, hqi, rfl, rfl, HQ, HS⟩ := hrel
          by_cases hlt : i < mx
          · have hii : (i : Int) < mx := by omega
            have hil : i < xo.length := by rw [HMX.out]; exact hlt
            obtain ⟨x, hx⟩ : ∃ x, xo[i]'hil = x := ⟨_, rfl⟩
            obtain ⟨b', o, rfl, c0⟩ := num_at HS.out.x.row hil
            rw [hx] at c0
            have HXI := Sd.mk (show xo[i]? = some x by rw [List.getElem?_eq_getElem hil, hx])
            have HXM := Sd.mk (show x ∈ xo by rw [← hx]; exact List.getElem_mem _)
            clear hx hil
            by_cases hy : x ∈ yo
            -- <L1
            · have HYM := Sd.mk hy
              have HLM := Sd.mk ((HMEM.out x).2 ⟨HXM.out, hy⟩)
              have HQ2 := Sd.mk (show q + 1 = both (xo.take (i + 1)) yo by rw [both_snoc HXI.out, if_pos hy, ← HQ.out])
              clear hy
              go_wp2_with (first
                | (go_at_call 19; (with_reducible refine (refhas_any _ Ay cy yo HS.out.y my HMY.out.symm x true ⟨fun _ => HYM.out, fun _ => rfl⟩).mono ?_); rintro e w4 ⟨rfl, rfl⟩)
                | (go_at_call 19; (with_reducible refine (refhas_any _ C cc ls HS.out.l k HK.out x true ⟨fun _ => HLM.out, fun _ => rfl⟩).mono ?_); rintro e w4 ⟨rfl, rfl⟩))
              go_roundg (gk - 1)
              case measure => omega
              case rel => exact ⟨i + 1, q + 1, by omega, by omega, by go_num, by go_num, HQ2, HS⟩
            -- L1>
            -- <L2
            · have HYM := Sd.mk hy
              have HQ2 := Sd.mk (show q = both (xo.take (i + 1)) yo by rw [both_snoc HXI.out, if_neg hy, ← HQ.out]; rfl)
              clear hy
              go_wp2_with (first
                | (go_at_call 19; (with_reducible refine (refhas_any _ Ay cy yo HS.out.y my HMY.out.symm x false ⟨fun e => Bool.noConfusion e, fun e => absurd e HYM.out⟩).mono ?_); rintro e w4 ⟨rfl, rfl⟩))
              go_roundg (gk - 1)
              case measure => omega
              case rel => exact ⟨i + 1, q, by omega, by omega, by go_num, rfl, HQ2, HS⟩
            -- L2>
          · have hii : decide (i < mx) = false := decide_eq_false (by omega)
            have hqk : q = k := by
              have := HQ.out
              rw [List.take_of_length_le (by rw [HMX.out]; omega)] at this
              rw [this, HK.out, HKB.out]
            subst hqk
            go_wp2
            go_loopg [12] q (fun gk v12 wr => ∃ i, 1 ≤ i ∧ i + gk ≤ q + 1 ∧ q ≤ i + gk ∧ v12 = .int .i64 (i : Nat) ∧ Sd (Sh w Ax Ay C cx cy cc xo yo ls wr))
            case atStart => exact ⟨1, by omega, by omega, by omega, rfl, HS⟩
            case round =>
              clear HS
              obtain ⟨j, hj1, hj, hj2, rfl, HS⟩ := hrel
              by_cases hjt : j < q
              -- <L3
              · have hji : (j : Int) < q := by omega
                obtain ⟨j0, rfl⟩ : ∃ j0, j = j0 + 1 := ⟨j - 1, by omega⟩
                have hjl : j0 + 1 < ls.length := by rw [← HK.out]; exact hjt
                obtain ⟨x, hx⟩ : ∃ x, ls[j0]? = some x := ⟨_, List.getElem?_eq_getElem (by omega)⟩
                obtain ⟨y, hy⟩ : ∃ y, ls[j0 + 1]? = some y := ⟨_, List.getElem?_eq_getElem hjl⟩
                have hxy := pair_at HPW.out hx hy
                obtain ⟨b', o, hC, c0⟩ := num_at HS.out.l.row (i := j0) (by omega)
                obtain ⟨b'', o'', hC2, c1⟩ := num_at HS.out.l.row hjl
                rw [hC] at hC2
                simp only [Option.some.injEq, Addr.mk.injEq] at hC2
                obtain ⟨rfl, rfl, -⟩ := hC2
                rw [(List.getElem?_eq_some_iff.1 hx).2] at c0
                rw [(List.getElem?_eq_some_iff.1 hy).2] at c1
                subst hC
                have dxy : decide (y ≤ x) = false := decide_eq_false (by omega)
                have e1 : ((j0 + 1 : Nat) : Int) - 1 = (j0 : Int) := by omega
                have e2 : (j0 : Int) + 1 - 1 = (j0 : Int) := by omega
                have hjj : (j0 : Int) < q := by omega
                clear hx hy hjl
                go_upto_region 16 with (fail)
                go_quiet (fail)
                have HS2 := Sd.mk (HS.out.below (below_drewN (Below.refl wr.heap.size wr) nq))
                clear c0 c1 HS
                go_wp2
                go_roundg (gk - 1)
                case measure => omega
                case rel => exact ⟨j0 + 2, by omega, by omega, by omega, by go_num, HS2⟩
              -- L3>
              · have hji : decide (j < q) = false := decide_eq_false (by omega)
                by_cases hn1 : n < 1
                -- <L4
                · have g0 : decide (n < 1) = true := decide_eq_true hn1
                  go_wp2
                  go_ret
                  exact ⟨rfl, HS.out.bel⟩
                -- L4>
                · obtain ⟨nn, rfl⟩ : ∃ nn : Nat, n = (nn : Int) := ⟨n.toNat, by omega⟩
                  have g0 : decide ((nn : Int) < 1) = false := decide_eq_false hn1
                  have nn1 : 1 ≤ nn := by omega
                  have nn20 : nn ≤ 20 := by omega
                  obtain ⟨f, hf⟩ : ∃ f, f = fl nn := ⟨_, rfl⟩
                  obtain ⟨qq, hqq⟩ : ∃ qq, qq = nn - fl nn := ⟨_, rfl⟩
                  have HQQ := Sd.mk hqq
                  have HF := Sd.mk hf
                  have hq20 : qq ≤ 20 := by omega
                  have hf20 : f ≤ 20 := by have := fl_lt nn1; omega
                  clear hf hqq
                  by_cases hq1 : mx < qq
                  -- <L5
                  · have g1 : decide (mx < qq) = true := decide_eq_true hq1
                    have g1b : decide ((mx : Int) < qq) = true := decide_eq_true (by omega)
                    go_wp2_with (first
                      | (go_at_call 20; (with_reducible refine (quorum_any _ nn nn1 (by omega) qq HQQ.out).mono ?_); rintro e w5 ⟨rfl, rfl⟩))
                    go_ret
                    exact ⟨rfl, HS.out.bel⟩
                  -- L5>
                  · have g1 : decide (mx < qq) = false := decide_eq_false hq1
                    have g1b : decide ((mx : Int) < qq) = false := decide_eq_false (by omega)
                    by_cases hq2 : my < qq
                    -- <L6
                    · have g2 : decide (my < qq) = true := decide_eq_true hq2
                      have g2b : decide ((my : Int) < qq) = true := decide_eq_true (by omega)
                      go_wp2_with (first
                        | (go_at_call 20; (with_reducible refine (quorum_any _ nn nn1 (by omega) qq HQQ.out).mono ?_); rintro e w5 ⟨rfl, rfl⟩))
                      go_ret
                      exact ⟨rfl, HS.out.bel⟩
                    -- L6>
                    -- <L7
                    · have g2 : decide (my < qq) = false := decide_eq_false hq2
                      have g2b : decide ((my : Int) < qq) = false := decide_eq_false (by omega)
                      have hfk : f < q := by
                        rw [HF.out, HK.out]
                        exact enough nn1 HX.out.1 HY.out.1 (fun x hx => ((HX.out.2.1 x).1 hx).2) (fun x hx => ((HY.out.2.1 x).1 hx).2) HKB.out (by rw [HMX.out, ← HQQ.out]; omega) (by rw [HMY.out, ← HQQ.out]; omega)
                      have g3 : decide (f < q) = true := decide_eq_true hfk
                      have g3b : decide ((f : Int) < q) = true := decide_eq_true (by omega)
                      go_wp2_with (first
                        | (go_at_call 20; (with_reducible refine (quorum_any _ nn nn1 (by omega) qq HQQ.out).mono ?_); rintro e w5 ⟨rfl, rfl⟩)
                        | (go_at_call 21; (with_reducible refine (faults_eq _ nn nn1 (by omega) f HF.out).mono ?_); rintro e w5 ⟨rfl, rfl⟩))
                      go_ret
                      exact ⟨rfl, HS.out.bel⟩
                    -- L7>
end Go.Proofs.Ytgleoeiiiadanaa.Cnts
