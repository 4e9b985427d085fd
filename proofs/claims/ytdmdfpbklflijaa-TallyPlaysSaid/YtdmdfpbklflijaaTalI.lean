/- A tally: Below: the closure: walked. A tally: Below: its DeleteFunc: walked. A tally: Below: walked. -/
import Derived.Test.YtdmdfpbklflijaaTalE
import Derived.Test.YtdmdfpbklflijaaDel
import Derived.Deep.RegionHeld3
import Derived.BigRegion
import Derived.Test.YtdmdfpbklflijaaPeel
set_option linter.unusedVariables false
set_option linter.unusedSimpArgs false
namespace Go.Proofs.Ytdmdfpbklflijaa.Tal
open Go.RowKit Go.Sort Rd Api Own Mv App Mk Num Dig Mac

/-- what the closure looks at: the box of the receiver, the tally's bound -/
structure Bc (Bx g : Nat) (below : Int) (W : World) : Prop where
  box : W.cell? ⟨Bx, 0, none⟩ = some (.pointer (some ⟨g, 0, none⟩))
  bnd : W.cell? ⟨g, 3, none⟩ = some (.int .i64 below)
theorem Bc.below' {Bx g : Nat} {below : Int} {W W1 : World} (h : Bc Bx g below W) (hb : RowKit.Below W.heap.size W W1) : Bc Bx g below W1 := ⟨cell_below hb h.box, cell_below hb h.bnd⟩
set_option maxHeartbeats 2000000 in
theorem below1_any {Bx g : Nat} {below : Int} {W : World} (h : Bc Bx g below W) (x : Vt) (r : Bool) (hr : decide (x.v ≤ below) = r) :
    Calls Try.prog 72 #[.agg #[.int .i64 x.v, .string x.b, .int .i64 x.s.f, .slice x.s.a x.s.n x.s.c], .pointer (some ⟨Bx, 0, none⟩)] W fun e w' => e = .returned (.bool r) ∧ RowKit.Below W.heap.size W w' := by
  have HB := Sd.mk (below_one W (.cells #[.int .i64 x.v, .string x.b, .int .i64 x.s.f, .slice x.s.a x.s.n x.s.c] 113))
  have X0 := blk_new W (.cells #[.int .i64 x.v, .string x.b, .int .i64 x.s.f, .slice x.s.a x.s.n x.s.c] 113)
  have h2 := h.below' HB.out
  have c0 := h2.box
  have c1 := h2.bnd
  clear h h2
  go_enter Try.func72, Try.ntmps72
  go_upto_region 1 with (fail)
  generalize W.heap.size = Bv at X0 ⊢
  generalize W.alloc _ = W1 at X0 HB c0 c1 ⊢
  have v0 := blk_at X0 0 _ rfl
  go_quiet (fail)
  go_wp2
  go_ret
  exact ⟨rfl, below_drewN HB.out nq⟩
set_option maxHeartbeats 4000000 in
set_option maxRecDepth 100000 in
theorem indexB_any (w : World) (A : Option Addr) (c : Nat) (vs : List Vt) (hs : Sl vtK w A c vs) {Bx g : Nat} {below : Int} (hC : Bc Bx g below w) (m : Nat) (hm : m = vs.length) :
    Calls Try.prog 101 #[.slice A m c, .func (.func 72) #[] #[.pointer (some ⟨Bx, 0, none⟩)]] w fun e w' => RowKit.Below w.heap.size w w' ∧
      ((e = .returned (.int .i64 (-1)) ∧ ∀ x ∈ vs, ¬ x.v ≤ below) ∨ ∃ k, e = .returned (.int .i64 (k : Nat)) ∧ k < m ∧ ∃ x, vs[k]? = some x ∧ x.v ≤ below ∧ ∀ x ∈ vs.take k, ¬ x.v ≤ below) := by
  have HS := Sd.mk hs
  have HC := Sd.mk hC
  have HM := Sd.mk hm
  have mc := Nat.le_trans hs.le hs.cap
  rw [← hm] at mc
  clear hs hC hm
  have H0 := Sd.mk (Below.refl w.heap.size w)
  go_enter Try.func101, Try.ntmps101
  go_wp2
  go_loopg [5, 8] m (fun gk v5 v8 wr => ∃ i, i + gk = m ∧ v8 = .int .i64 (i : Nat) ∧ Sd (∀ x ∈ vs.take i, ¬ x.v ≤ below) ∧ Sd (RowKit.Below w.heap.size w wr))
  case atStart => exact ⟨0, by omega, rfl, ⟨fun x hx => by simp at hx⟩, H0⟩
  case round =>
    clear H0
    obtain ⟨i, hi, rfl, HA, HB⟩ := hrel
    by_cases hlt : i < m
    · have hii : (i : Int) < m := by omega
      obtain ⟨x, hx⟩ : ∃ x, vs[i]? = some x := ⟨vs[i]'(by rw [← HM.out]; exact hlt), List.getElem?_eq_getElem _⟩
      obtain ⟨b1, o1, rfl, p0, p1, p2, p3⟩ := vt_at HS.out.row hx
      have HX := Sd.mk hx
      have c0 := cell_below HB.out p0
      have c1 := cell_below HB.out p1
      have c2 := cell_below HB.out p2
      have c3 := cell_below HB.out p3
      obtain ⟨r, hr⟩ : ∃ r, decide (x.v ≤ below) = r := ⟨_, rfl⟩
      have HR := Sd.mk hr
      clear hx p0 p1 p2 p3 hr
      cases r with
      | true =>
        go_wp2_with (first
          | (go_at_call 72; (with_reducible refine (below1_any (HC.out.below' HB.out) x true HR.out).mono ?_); rintro e w2 ⟨rfl, hb⟩; have HB2 := Sd.mk (below_then HB.out hb); clear hb))
        go_ret
        exact ⟨HB2.out, .inr ⟨i, rfl, hlt, x, HX.out, of_decide_eq_true HR.out, HA.out⟩⟩
      | false =>
        have HA2 := Sd.mk (show ∀ y ∈ vs.take (i + 1), ¬ y.v ≤ below from fun y hy => by
          rw [List.take_add_one, HX.out] at hy
          rcases List.mem_append.1 hy with h | h
          · exact HA.out y h
          · simp at h; subst h; exact of_decide_eq_false HR.out)
        go_wp2_with (first
          | (go_at_call 72; (with_reducible refine (below1_any (HC.out.below' HB.out) x false HR.out).mono ?_); rintro e w2 ⟨rfl, hb⟩; have HB2 := Sd.mk (below_then HB.out hb); clear hb))
        go_roundg (gk - 1)
        case measure => omega
        case rel => exact ⟨i + 1, by omega, by go_num, HA2, HB2⟩
    · have hii : decide (i < m) = false := decide_eq_false (by omega)
      have HE := Sd.mk (show ∀ x ∈ vs, ¬ x.v ≤ below by have := HA.out; rwa [List.take_of_length_le (by rw [← HM.out]; omega)] at this)
      go_wp2
      go_ret
      exact ⟨HB.out, .inl ⟨rfl, HE.out⟩⟩
end Go.Proofs.Ytdmdfpbklflijaa.Tal
set_option linter.unusedVariables false
set_option linter.unusedSimpArgs false
namespace Go.Proofs.Ytdmdfpbklflijaa.Tal
open Go.RowKit Go.Sort Rd Api Own Mv App Mk Num Dig Mac
open Del (Dl kp kp_none kp_yes kp_no kp_lt dl_of grown_setCells)

theorem zeroVote (w : World) : (zeroValue 113).run Try.prog w = .ok (.agg #[.int .i64 0, .string ByteArray.empty, .int .i64 0, .slice none 0 0]) w := by kernel_rfl
open Del (run_clear_k)
set_option maxHeartbeats 8000000 in
set_option maxRecDepth 100000 in
theorem idx_votes {C : Nat → World → Prop} {row : Option Nat} {W0 : World} {B0 g c sz : Nat} {dec : Nat → Bool} {ss : List Vt} {cap : Value} (hclo : ∀ (j : Nat) (x : Vt) (W : World), ss[j]? = some x → C j W → Calls Try.prog 72 #[.agg #[.int .i64 x.v, .string x.b, .int .i64 x.s.f, .slice x.s.a x.s.n x.s.c], cap] W fun e w' => e = .returned (.bool (dec j)) ∧ C (j + 1) w' ∧ W.grownBy w' row) (hr : row ≠ some g) (hB : ∀ i, row = some i → B0 ≤ i) (m : Nat) (hm : m = ss.length) (hc : m ≤ c) (hc2 : c ≤ 9223372036854775807) {w : World} (h : Dl fV 4 W0 B0 g 113 sz dec ss 0 w) (hC : C 0 w) :
    Calls Try.prog 101 #[.slice (some ⟨g, 0, none⟩) m c, .func (.func 72) #[] #[cap]] w fun e w' => Dl fV 4 W0 B0 g 113 sz dec ss 0 w' ∧ ((e = .returned (.int .i64 (-1)) ∧ (∀ i, i < m → dec i = false) ∧ C m w') ∨ ∃ k, e = .returned (.int .i64 (k : Nat)) ∧ k < m ∧ dec k = true ∧ (∀ i, i < k → dec i = false) ∧ C (k + 1) w') := by
  have HCL := Sd.mk hclo
  have HM := Sd.mk hm
  have HRB := Sd.mk (⟨hr, hB⟩ : row ≠ some g ∧ ∀ i, row = some i → B0 ≤ i)
  have HD := Sd.mk h
  have HC := Sd.mk hC
  clear hclo hr hB hm h hC
  go_enter Try.func101, Try.ntmps101
  go_wp2
  go_loopg [5, 8] m (fun gk v5 v8 wr => ∃ i, i + gk = m ∧ v8 = .int .i64 (i : Nat) ∧ Sd (∀ j, j < i → dec j = false) ∧ Sd (C i wr) ∧ Sd (Dl fV 4 W0 B0 g 113 sz dec ss 0 wr))
  case atStart => exact ⟨0, by omega, rfl, ⟨fun j hj => by omega⟩, HC, HD⟩
  case round =>
    clear HC HD
    obtain ⟨i, hi, rfl, HA, HC, HD⟩ := hrel
    by_cases hlt : i < m
    · have hii : (i : Int) < m := by omega
      obtain ⟨x, hx⟩ : ∃ x, ss[i]? = some x := ⟨ss[i]'(by rw [← HM.out]; exact hlt), List.getElem?_eq_getElem _⟩
      have HX := Sd.mk hx
      have c0 : wr.cell? ⟨g, i * 4, none⟩ = some _ := HD.out.high i x (Nat.zero_le _) hx 0 _ rfl
      have c1 := HD.out.high i x (Nat.zero_le _) hx 1 _ rfl
      have c2 := HD.out.high i x (Nat.zero_le _) hx 2 _ rfl
      have c3 := HD.out.high i x (Nat.zero_le _) hx 3 _ rfl
      obtain ⟨r, hr⟩ : ∃ r, dec i = r := ⟨_, rfl⟩
      have HR := Sd.mk hr
      have HCX := Sd.mk (show Calls Try.prog 72 #[.agg #[.int .i64 x.v, .string x.b, .int .i64 x.s.f, .slice x.s.a x.s.n x.s.c], cap] wr fun e w' => e = .returned (.bool r) ∧ C (i + 1) w' ∧ wr.grownBy w' row from by have := HCL.out i x wr hx HC.out; rwa [hr] at this)
      clear hx hr
      cases r with
      | true =>
        go_wp2_with (first
          | (go_at_call 72; (with_reducible refine HCX.out.mono ?_); rintro e w2 ⟨rfl, hC2, hg2⟩; have HC2 := Sd.mk hC2; have HD2 := Sd.mk (HD.out.grown hg2 HRB.out.1 HRB.out.2); clear hC2 hg2))
        go_ret
        exact ⟨HD2.out, .inr ⟨i, rfl, hlt, HR.out, HA.out, HC2.out⟩⟩
      | false =>
        have HA2 := Sd.mk (show ∀ j, j < i + 1 → dec j = false from fun j hj => by
          rcases Nat.lt_or_ge j i with h | h
          · exact HA.out j h
          · rw [show j = i by omega]; exact HR.out)
        go_wp2_with (first
          | (go_at_call 72; (with_reducible refine HCX.out.mono ?_); rintro e w2 ⟨rfl, hC2, hg2⟩; have HC2 := Sd.mk hC2; have HD2 := Sd.mk (HD.out.grown hg2 HRB.out.1 HRB.out.2); clear hC2 hg2))
        go_roundg (gk - 1)
        case measure => omega
        case rel => exact ⟨i + 1, by omega, by go_num, HA2, HC2, HD2⟩
    · have hii : decide (i < m) = false := decide_eq_false (by omega)
      obtain rfl : i = m := by omega
      go_wp2
      go_ret
      exact ⟨HD.out, .inl ⟨rfl, HA.out, HC.out⟩⟩
set_option maxHeartbeats 8000000 in
set_option maxRecDepth 100000 in
theorem del_votes {C : Nat → World → Prop} {row : Option Nat} {W0 : World} {B0 g c : Nat} {dec : Nat → Bool} {ss : List Vt} {cap : Value} (hclo : ∀ (j : Nat) (x : Vt) (W : World), ss[j]? = some x → C j W → Calls Try.prog 72 #[.agg #[.int .i64 x.v, .string x.b, .int .i64 x.s.f, .slice x.s.a x.s.n x.s.c], cap] W fun e w' => e = .returned (.bool (dec j)) ∧ C (j + 1) w' ∧ W.grownBy w' row) (hr : row ≠ some g) (hB : ∀ i, row = some i → B0 ≤ i) (hrl : ∀ j W, C j W → ∀ i, row = some i → i < W.heap.size) (hCs : ∀ j W W', C j W → W.grownBy W' (some g) → (∃ cur, W.heap[g]? = some (.cells cur 113 (0, 0))) → C j W') (m : Nat) (hm : m = ss.length) (hc : m ≤ c) (hc2 : c ≤ 9223372036854775807) {w : World} (h : Dl fV 4 W0 B0 g 113 (c * 4) dec ss 0 w) (hC : C 0 w) :
    Calls Try.prog 71 #[.slice (some ⟨g, 0, none⟩) m c, .func (.func 72) #[] #[cap]] w fun e w' => ∃ p, e = .returned (.slice (some ⟨g, 0, none⟩) p c) ∧ p = (kp dec ss m).length ∧ p ≤ m ∧ OwnR fV 4 w' 0 113 (.slice (some ⟨g, 0, none⟩) p c) (kp dec ss m) ∧ C m w' ∧ RowKit.Below B0 W0 w' := by
  have HI := Sd.mk (idx_votes hclo hr hB m hm hc hc2 h hC)
  have HCL := Sd.mk hclo
  have HM := Sd.mk hm
  have HRB := Sd.mk (⟨hr, hB⟩ : row ≠ some g ∧ ∀ i, row = some i → B0 ≤ i)
  have HRL := Sd.mk hrl
  have HCS := Sd.mk hCs
  clear hclo hr hB hm h hC hrl hCs
  go_enter Try.func71, Try.ntmps71
  go_upto_region 2 with (first
    | (go_at_call 101; (with_reducible refine HI.out.mono ?_); rintro e w1 ⟨hd1, (⟨rfl, ha, hC1⟩ | ⟨k, rfl, hk, hdk, ha, hC1⟩)⟩))
  · have HA := Sd.mk (kp_none (ss := ss) ha)
    have HD1 := Sd.mk hd1
    have HC1 := Sd.mk hC1
    clear ha hd1 hC1 HI
    go_wp2
    go_ret
    have hd2 := HD1.out.upto (j := m) (fun i hi => by
      cases e : dec i with
      | false => rfl
      | true => exact absurd (congrArg List.length HA.out) (by have := kp_lt (dec := dec) (ss := ss) (j := m) (by rw [HM.out]; exact Nat.le_refl _) i hi e; rw [List.length_take, ← HM.out]; omega))
    exact ⟨m, rfl, by rw [HA.out, List.length_take, ← HM.out]; omega, Nat.le_refl _, by have := hd2.own (fun _ => rfl) (p := m) (by rw [HA.out, List.length_take, ← HM.out]; omega) hc hc2 []; exact this, HC1.out, HD1.out.bel⟩
  · have HD1 := Sd.mk ((hd1.upto (j := k) ha).skip hdk)
    have HC1 := Sd.mk hC1
    have HK1 := Sd.mk (show (kp dec ss (k + 1)).length = k by rw [kp_yes hdk, kp_none ha, List.length_take, ← HM.out]; omega)
    have dk : ((k : Int) == -1) = false := by rw [beq_eq_false_iff_ne]; intro h; omega
    clear hd1 hC1 ha hdk HI
    go_wp2
    go_loopg [5, 6, 7] (m - (k + 1)) (fun gk v5 v6 v7 wr => ∃ p j, j + gk = m ∧ p < j ∧ v5 = .int .i64 (p : Nat) ∧ v6 = .int .i64 (j : Nat) ∧ Sd ((kp dec ss j).length = p) ∧ Sd (C j wr) ∧ Sd (Dl fV 4 W0 B0 g 113 (c * 4) dec ss j wr))
    case atStart => exact ⟨k, k + 1, by omega, by omega, rfl, by go_num, HK1, HC1, HD1⟩
    case round =>
      clear HD1 HC1 HK1
      obtain ⟨p, j, hj, hpj, rfl, rfl, HK, HC, HD⟩ := hrel
      by_cases hlt : j < m
      · have hji : (j : Int) < m := by omega
        obtain ⟨x, hx⟩ : ∃ x, ss[j]? = some x := ⟨ss[j]'(by rw [← HM.out]; exact hlt), List.getElem?_eq_getElem _⟩
        have HX := Sd.mk hx
        have c0 : wr.cell? ⟨g, j * 4, none⟩ = some _ := HD.out.high j x (Nat.le_refl _) hx 0 _ rfl
        have c1 := HD.out.high j x (Nat.le_refl _) hx 1 _ rfl
        have c2 := HD.out.high j x (Nat.le_refl _) hx 2 _ rfl
        have c3 := HD.out.high j x (Nat.le_refl _) hx 3 _ rfl
        obtain ⟨r, hr⟩ : ∃ r, dec j = r := ⟨_, rfl⟩
        have HR := Sd.mk hr
        clear hx hr
        go_upto_region 8 with (fail)
        have HBL := Sd.mk (below_one wr (.cells #[.int .i64 x.v, .string x.b, .int .i64 x.s.f, .slice x.s.a x.s.n x.s.c] 113))
        have X0 := Sd.mk (blk_new wr (.cells #[.int .i64 x.v, .string x.b, .int .i64 x.s.f, .slice x.s.a x.s.n x.s.c] 113))
        have HD1 := Sd.mk (HD.out.keepB (HBL.out.block _ HD.out.lt) (HD.out.bel.trans (HBL.out.mono (Nat.le_trans HD.out.ge (Nat.le_of_lt HD.out.lt)))))
        have HC1 := Sd.mk (HCS.out j wr _ HC.out ⟨HBL.out.os, HBL.out.tape, HBL.out.output, HBL.out.size, fun i hi _ => HBL.out.block i hi⟩ HD.out.ty)
        have HBV := Sd.mk (show row ≠ some wr.heap.size from fun e => Nat.lt_irrefl _ (HRL.out j wr HC.out _ e))
        clear c0 c1 c2 c3 HC HD HBL
        generalize wr.heap.size = Bv at X0 HBV ⊢
        generalize wr.alloc _ = W1 at X0 HD1 HC1 ⊢
        have HCX := Sd.mk (show Calls Try.prog 72 #[.agg #[.int .i64 x.v, .string x.b, .int .i64 x.s.f, .slice x.s.a x.s.n x.s.c], cap] W1 fun e w' => e = .returned (.bool r) ∧ C (j + 1) w' ∧ W1.grownBy w' row from by have := HCL.out j x W1 HX.out HC1.out; rwa [HR.out] at this)
        have q0 := blk_at X0.out 0 _ rfl
        have q1 := blk_at X0.out 1 _ rfl
        have q2 := blk_at X0.out 2 _ rfl
        have q3 := blk_at X0.out 3 _ rfl
        cases r with
        | true =>
          have HK2 := Sd.mk (show (kp dec ss (j + 1)).length = p by rw [kp_yes HR.out]; exact HK.out)
          go_wp2_with (first
            | (go_at_call 72; (with_reducible refine HCX.out.mono ?_); rintro e w2 ⟨rfl, hC2, hg2⟩; have HC2 := Sd.mk hC2; have HD3 := Sd.mk ((HD1.out.grown hg2 HRB.out.1 HRB.out.2).skip HR.out); clear hC2 hg2))
          go_roundg (gk - 1)
          case measure => omega
          case rel => exact ⟨p, j + 1, by omega, by omega, rfl, by go_num, HK2, HC2, HD3⟩
        | false =>
          have HK2 := Sd.mk (show (kp dec ss (j + 1)).length = p + 1 by rw [kp_no HR.out HX.out, List.length_append, HK.out]; rfl)
          go_upto_region 9 with (first
            | (go_at_call 72; (with_reducible refine HCX.out.mono ?_); rintro e w2 ⟨rfl, hC2, hg2⟩; have HC2 := Sd.mk hC2; have HD2 := Sd.mk (HD1.out.grown hg2 HRB.out.1 HRB.out.2); have X2 := Sd.mk (blk_grown X0.out hg2 HBV.out); clear hC2 hg2))
          clear q0 q1 q2 q3 X0 HBV HCX HC1 HD1
          have HD3 := Sd.mk (HD2.out.keep (fun _ => rfl) HX.out HR.out HK.out (by omega))
          have HC3 := Sd.mk (HCS.out (j + 1) w2 (w2.setCells g (p * 4) (fV x)) HC2.out (grown_setCells HD2.out.lt _ _) HD2.out.ty)
          have hpm := HD2.out.fit
          rw [← HM.out] at hpm
          obtain ⟨u0, o0⟩ := Option.isSome_iff_exists.1 (HD2.out.mid (p * 4) (by omega))
          obtain ⟨u1, o1⟩ := Option.isSome_iff_exists.1 (HD2.out.mid (p * 4 + 1) (by omega))
          obtain ⟨u2, o2⟩ := Option.isSome_iff_exists.1 (HD2.out.mid (p * 4 + 2) (by omega))
          obtain ⟨u3, o3⟩ := Option.isSome_iff_exists.1 (HD2.out.mid (p * 4 + 3) (by omega))
          have f0 := HD2.out.frz (p * 4)
          have f1 := HD2.out.frz (p * 4 + 1)
          have f2 := HD2.out.frz (p * 4 + 2)
          have f3 := HD2.out.frz (p * 4 + 3)
          have q0 := blk_at X2.out 0 _ rfl
          have q1 := blk_at X2.out 1 _ rfl
          have q2 := blk_at X2.out 2 _ rfl
          have q3 := blk_at X2.out 3 _ rfl
          have hpl : p < m := by omega
          have hpi : (p : Int) < m := by omega
          clear hpm HD2 X2 HC2
          go_wp2
          go_roundg (gk - 1)
          case measure => omega
          case rel => exact ⟨p + 1, j + 1, by omega, by omega, by go_num, by go_num, HK2, HC3, HD3⟩
      · have hji : decide (j < m) = false := decide_eq_false (by omega)
        obtain rfl : j = m := by omega
        have hpl : p < j := by omega
        have hpl2 : p ≤ j := by omega
        have hpc : p ≤ c := by omega
        obtain ⟨vs, hvl, hcl⟩ := Del.run_clear_k (P := Try.prog) wr 109 113 _ Try.underlying109 zeroVote 4 rfl (fun v hv => by simp [Value.cells] at hv; rcases hv with rfl | rfl | rfl | rfl <;> rfl) (by omega) g (p * 4) (j - p) (c - p) (by omega) (fun t ht => HD.out.mid (p * 4 + t) (by have := Nat.mul_le_mul_right 4 hc; omega)) (fun t ht => HD.out.frz (p * 4 + t))
        have HOW := Sd.mk (HD.out.own (fun _ => rfl) HK.out hpc hc2 vs)
        have HC3 := Sd.mk (HCS.out j wr (wr.setCells g (p * 4) vs) HC.out (grown_setCells HD.out.lt _ _) HD.out.ty)
        have HBE := Sd.mk (below_setCells HD.out.ge vs (p * 4) wr HD.out.bel)
        clear hvl HC HD
        go_wp2
        go_ret
        exact ⟨p, rfl, HK.out.symm, hpl2, HOW.out, HC3.out, HBE.out⟩
set_option maxHeartbeats 1000000 in
theorem idxnil_votes (fv : Value) (w : World) : Calls Try.prog 101 #[.slice none 0 0, fv] w fun e w' => e = .returned (.int .i64 (-1)) ∧ w' = w := by
  go_enter Try.func101, Try.ntmps101
  go_wp2
  refine wp_loop_rounds 1 ?_
  rw [rounds_succ]
  go_wp2
  go_ret
  exact ⟨rfl, rfl⟩
set_option maxHeartbeats 1000000 in
theorem delnil_votes (fv : Value) (w : World) : Calls Try.prog 71 #[.slice none 0 0, fv] w fun e w' => e = .returned (.slice none 0 0) ∧ w' = w := by
  go_enter Try.func71, Try.ntmps71
  go_wp2_with (first
    | (go_at_call 101; (with_reducible refine (idxnil_votes _ _).mono ?_); rintro e w1 ⟨rfl, rfl⟩))
  go_ret
  exact ⟨rfl, rfl⟩

end Go.Proofs.Ytdmdfpbklflijaa.Tal
set_option linter.unusedVariables false
set_option linter.unusedSimpArgs false

namespace Go.Proofs.Ytdmdfpbklflijaa.Tal
open Go.RowKit Go.Sort Rd Api Own Mv App Mk Num Dig Mac
open Del (Dl kp kp_none kp_yes kp_no kp_lt kp_filter dl_of grown_setCells)

/-- amid Below: all but the votes' row -/
structure Cb (K : World → Prop) (w0 : World) (g : Nat) (seed : ByteArray) (tn n below : Int) (v : Value) (Bx : Nat) (W : World) : Prop where
  blk : W.heap[g]? = some (.cells #[.string seed, .int .i64 tn, .int .i64 n, .int .i64 below, v] 111 (0, 0))
  box : W.heap[Bx]? = some (.cells #[.pointer (some ⟨g, 0, none⟩)] 54 (0, 0))
  ge : w0.heap.size ≤ g
  bel : RowKit.Below w0.heap.size w0 W
  kp : Kp K
  k : K W
theorem Cb.below {K : World → Prop} {w0 : World} {g : Nat} {seed : ByteArray} {tn n below : Int} {v : Value} {Bx : Nat} {W W1 : World} (h : Cb K w0 g seed tn n below v Bx W) (hb : RowKit.Below W.heap.size W W1) : Cb K w0 g seed tn n below v Bx W1 := ⟨blk_keep h.blk hb, blk_keep h.box hb, h.ge, below_then h.bel hb, h.kp, h.kp.below h.k hb⟩
theorem Cb.row {K : World → Prop} {w0 : World} {g : Nat} {seed : ByteArray} {tn n below : Int} {v : Value} {Bx gv : Nat} {W W1 : World} (h : Cb K w0 g seed tn n below v Bx W) (hgv : w0.heap.size ≤ gv) (hg : W.grownBy W1 (some gv)) (ht : ∃ cur, W.heap[gv]? = some (.cells cur 113 (0, 0))) : Cb K w0 g seed tn n below v Bx W1 := by
  obtain ⟨cur, ht⟩ := ht
  have n1 : some gv ≠ some g := fun e => by have h1 := h.blk; rw [← Option.some.inj e, ht] at h1; simp at h1
  have n2 : some gv ≠ some Bx := fun e => by have h1 := h.box; rw [← Option.some.inj e, ht] at h1; simp at h1
  exact ⟨blk_grown h.blk hg n1, blk_grown h.box hg n2, h.ge, below_grown h.bel hg h.bel.size (fun k e => by obtain rfl := Option.some.inj e; exact hgv), h.kp, h.kp.grow h.k hg (fun k e => by obtain rfl := Option.some.inj e; exact ⟨cur, ht⟩)⟩
/-- which votes go -/
def old (below : Int) (x : Vt) : Bool := decide (x.v ≤ below)
def oldN (below : Int) (vs : List Vt) (j : Nat) : Bool := ((vs[j]?).map (old below)).getD false
theorem oldN_at {below : Int} {vs : List Vt} {j : Nat} {x : Vt} (hx : vs[j]? = some x) : oldN below vs j = old below x := by unfold oldN; rw [hx]; rfl
theorem kp_old (below : Int) (vs : List Vt) : kp (oldN below vs) vs vs.length = vs.filter (fun x => !old below x) := by
  rw [kp_filter (p := old below) (fun i x hx => oldN_at hx) _ (Nat.le_refl _), List.take_length]
/-- the contract of DeleteFunc here, in one word -/
theorem dels {K : World → Prop} {w0 : World} {g : Nat} {seed : ByteArray} {tn n below : Int} {A : Option Addr} {m c : Nat} {vs : List Vt} {Bx : Nat} {W : World} (hm : m = vs.length) (h : Cb K w0 g seed tn n below (.slice A m c) Bx W) (ho : OwnR fV 4 W 0 113 (.slice A m c) vs) (hr : ∀ k, (Value.slice A m c).ownBlock = some k → w0.heap.size ≤ k) :
    Calls Try.prog 71 #[.slice A m c, .func (.func 72) #[] #[.pointer (some ⟨Bx, 0, none⟩)]] W fun e w' => ∃ A' p c', e = .returned (.slice A' p c') ∧ OwnR fV 4 w' 0 113 (.slice A' p c') (vs.filter (fun x => !old below x)) ∧ Cb K w0 g seed tn n below (.slice A m c) Bx w' ∧ (∀ k, (Value.slice A' p c').ownBlock = some k → w0.heap.size ≤ k) := by
  rcases dl_of (f := fV) (k := 4) (fun _ => rfl) ho hr h.bel (oldN below vs) with ⟨rfl, rfl, rfl, rfl⟩ | ⟨gv, rfl, h1, h2, h3, hd⟩
  · exact (delnil_votes _ W).mono fun e w' ⟨he, hw⟩ => ⟨none, 0, 0, he, OwnR.nil _ _ _ _ _, by rw [hw]; exact h, fun k hk => by simp [Value.ownBlock] at hk⟩
  · have hgv := hr gv rfl
    refine (del_votes (C := fun _ W => Cb K w0 g seed tn n below (.slice (some ⟨gv, 0, none⟩) m c) Bx W) (row := none) (dec := oldN below vs) (ss := vs) (cap := .pointer (some ⟨Bx, 0, none⟩)) ?_ (by simp) (fun i e => by cases e) (fun j W _ i e => by cases e) (fun j W W' hC hg ht => hC.row hgv hg ht) m hm h2 h3 hd h).mono ?_
    · intro j x W1 hx hC
      refine (below1_any (⟨blk_at hC.box 0 _ rfl, blk_at hC.blk 3 _ rfl⟩ : Bc Bx g below W1) x (oldN below vs j) (oldN_at hx).symm).mono ?_
      rintro e w' ⟨he, hb⟩
      exact ⟨he, hC.below hb, ⟨hb.os, hb.tape, hb.output, hb.size, fun k hk _ => hb.block k hk⟩⟩
    · rintro e w' ⟨p, he, hp, hpm, hown, hC, hb⟩
      have hk : kp (oldN below vs) vs m = vs.filter (fun x => !old below x) := by rw [hm]; exact kp_old below vs
      exact ⟨_, p, c, he, by rw [← hk]; exact hown, hC, fun k hk => by simp [Value.ownBlock] at hk; omega⟩
theorem tb_cb {K : World → Prop} {w0 : World} {g : Nat} {seed : ByteArray} {tn n below : Int} {v : Value} {vs : List Vt} {W : World} (h : Tb K w0 g seed tn n below v vs W) :
    Cb K w0 g seed tn n below v W.heap.size (W.alloc (.cells #[.pointer (some ⟨g, 0, none⟩)] 54)) ∧ OwnR fV 4 (W.alloc (.cells #[.pointer (some ⟨g, 0, none⟩)] 54)) 0 113 v vs := by
  have hb := below_one W (.cells #[.pointer (some ⟨g, 0, none⟩)] 54)
  exact ⟨⟨blk_keep h.ty.blk hb, blk_new _ _, h.ge, below_then h.bel hb, h.kp, h.kp.below h.k hb⟩, h.ty.own.below hb⟩
theorem Cb.set3 {K : World → Prop} {w0 : World} {g : Nat} {seed : ByteArray} {tn n below : Int} {v : Value} {Bx : Nat} {W : World} (h : Cb K w0 g seed tn n below v Bx W) (b2 : Int) : Cb K w0 g seed tn n b2 v Bx (W.setCell ⟨g, 3, none⟩ (.int .i64 b2)) := by
  have n2 : Bx ≠ g := fun e => by have h1 := h.box; rw [e, h.blk] at h1; simp at h1
  exact ⟨(blk_set3 h.blk 3 _).trans rfl, (heap_set _ _ _ _ _ n2).trans h.box, h.ge, h.bel.setCell (p := ⟨g, 3, none⟩) h.ge _, h.kp, h.kp.set 3 _ h.k h.blk (.inl rfl)⟩
theorem Cb.set4 {K : World → Prop} {w0 : World} {g : Nat} {seed : ByteArray} {tn n below : Int} {v v' : Value} {vs : List Vt} {Bx : Nat} {W : World} (h : Cb K w0 g seed tn n below v Bx W) (ho : OwnR fV 4 W 0 113 v' vs) (hr : ∀ k, v'.ownBlock = some k → w0.heap.size ≤ k) : Tb K w0 g seed tn n below v' vs (W.setCell ⟨g, 4, none⟩ v') :=
  ⟨⟨(blk_set3 h.blk 4 _).trans rfl, OwnR.grown ho (row := some g) ⟨rfl, rfl, rfl, by simp [World.setCell], fun k hk hr => heap_set _ _ _ _ k (fun e => hr (by rw [e]))⟩ (.inr (OwnR.blk ho h.blk (by decide)))⟩, h.ge, hr, h.bel.setCell (p := ⟨g, 4, none⟩) h.ge _, h.kp, h.kp.set 4 _ h.k h.blk (.inl rfl)⟩
theorem own_set3 {g : Nat} {seed : ByteArray} {tn n below : Int} {v w : Value} {vs : List Vt} {W : World} (ho : OwnR fV 4 W 0 113 v vs) (h : W.heap[g]? = some (.cells #[.string seed, .int .i64 tn, .int .i64 n, .int .i64 below, v] 111 (0, 0))) (u : Value) : OwnR fV 4 (W.setCell ⟨g, 3, none⟩ u) 0 113 v vs :=
  OwnR.grown ho (row := some g) ⟨rfl, rfl, rfl, by simp [World.setCell], fun k hk hr => heap_set _ _ _ _ k (fun e => hr (by rw [e]))⟩ (.inr (OwnR.blk ho h (by decide)))
set_option maxHeartbeats 8000000 in
set_option maxRecDepth 100000 in
theorem below_any {K : World → Prop} {w0 : World} {g : Nat} {seed : ByteArray} {tn n below : Int} {v : Value} {vs : List Vt} {W : World} (h : Tb K w0 g seed tn n below v vs W) (view b2 : Int) (hb2 : max below view = b2) :
    Calls Try.prog 36 #[.pointer (some ⟨g, 0, none⟩), .int .i64 view] W fun e w' => e = .returned (.tuple #[]) ∧ ∃ v', Tb K w0 g seed tn n b2 v' (vs.filter (fun x => !old b2 x)) w' := by
  obtain ⟨A1, c, rfl, -⟩ := own_vt h.ty.own
  obtain ⟨m, hm⟩ : ∃ m, m = vs.length := ⟨_, rfl⟩
  rw [← hm] at h
  have HM := Sd.mk hm
  obtain ⟨hc, ho⟩ := tb_cb h
  have HC := Sd.mk hc
  have HO := Sd.mk ho
  have HR := Sd.mk h.row
  clear h hc ho hm
  go_enter Try.func36, Try.ntmps36
  go_upto_region 1 with (fail)
  generalize W.heap.size = Bx at HC ⊢
  generalize W.alloc _ = W1 at HC HO ⊢
  have x0 := blk_at HC.out.box 0 _ rfl
  have g3 := blk_at HC.out.blk 3 _ rfl
  have f3 := blk_frz HC.out.blk 3
  go_cut [] from 4 to 12 (fun wx => Sd (Cb K w0 g seed tn n b2 (.slice A1 m c) Bx wx) ∧ Sd (OwnR fV 4 wx 0 113 (.slice A1 m c) vs))
  case first =>
    go_region
    have HC2 := Sd.mk ((HC.out.set3 b2).below (below_drew' (Below.refl _ _)))
    have HO2 := Sd.mk ((own_set3 (w := .slice A1 m c) HO.out HC.out.blk (.int .i64 b2)).below (below_drew' (Below.refl _ _)))
    clear HC HO
    generalize (W1.setCell _ _).drew = W2 at HC2 HO2 ⊢
    go_wp2
    go_meet
    exact ⟨HC2, HO2⟩
  case rest =>
    obtain ⟨HC2, HO2⟩ := hcut
    clear HC HO x0 g3 f3
    have HDL := Sd.mk (fun W5 (h1 : Cb K w0 g seed tn n b2 (.slice A1 m c) Bx W5) (h2 : OwnR fV 4 W5 0 113 (.slice A1 m c) vs) => dels HM.out h1 h2 HR.out)
    have x0 := blk_at HC2.out.box 0 _ rfl
    have g4 := blk_at HC2.out.blk 4 _ rfl
    have HD2 := Sd.mk (⟨HC2.out.below (below_drew' (Below.refl _ _)), HO2.out.below (below_drew' (Below.refl _ _))⟩ : Cb K w0 g seed tn n b2 (.slice A1 m c) Bx wc.drew ∧ OwnR fV 4 wc.drew 0 113 (.slice A1 m c) vs)
    have g4d : wc.drew.cell? ⟨g, 4, none⟩ = some (.slice A1 m c) := blk_at HD2.out.1.blk 4 _ rfl
    have hne : Bx ≠ g := fun e => by have h1 := HC2.out.box; rw [e, HC2.out.blk] at h1; simp at h1
    go_wp2
    have x0d : wc.drew.cell? ⟨Bx, 0, none⟩ = some (.pointer (some ⟨g, 0, none⟩)) := blk_at HD2.out.1.box 0 _ rfl
    refine Peel.region_peel (n := 9) (S := fun W => W.cell? ⟨Bx, 0, none⟩ = some (.pointer (some ⟨g, 0, none⟩)) ∧ W.cell? ⟨g, 4, none⟩ = some (.slice A1 m c)) (by kernel_rfl) (by kernel_rfl) ⟨x0d, g4d⟩ (fun hHeld => ?_)
    simp only [List.take_succ_cons, List.take_zero]
    (refine Peel.take 0 (v := ?_) rfl rfl (by kernel_rfl) (by kernel_rfl) (by kernel_rfl) (fun _ _ _ h => h) (by assumption) ?_ ?_; rotate_left; (focus (intro w hSw; (try dsimp only at hSw); (try simp only [List.getElem_toArray, List.getElem_cons_succ, List.getElem_cons_zero]); go_simp; try (with_reducible rfl))); try simp only [List.getElem_toArray, List.getElem_cons_succ, List.getElem_cons_zero, Act.put, List.setIfInBounds_toArray, List.set_cons_zero, List.set_cons_succ])
    (refine Peel.take 1 (v := ?_) rfl rfl (by kernel_rfl) (by kernel_rfl) (by kernel_rfl) (fun _ _ _ h => h) (by assumption) ?_ ?_; rotate_left; (focus (intro w hSw; (try dsimp only at hSw); (try simp only [List.getElem_toArray, List.getElem_cons_succ, List.getElem_cons_zero]); go_simp; try (with_reducible rfl))); try simp only [List.getElem_toArray, List.getElem_cons_succ, List.getElem_cons_zero, Act.put, List.setIfInBounds_toArray, List.set_cons_zero, List.set_cons_succ])
    (refine Peel.take 2 (v := ?_) rfl rfl (by kernel_rfl) (by kernel_rfl) (by kernel_rfl) (fun _ _ _ h => h) (by assumption) ?_ ?_; rotate_left; (focus (intro w hSw; (try dsimp only at hSw); (try simp only [List.getElem_toArray, List.getElem_cons_succ, List.getElem_cons_zero]); go_simp; try (with_reducible rfl))); try simp only [List.getElem_toArray, List.getElem_cons_succ, List.getElem_cons_zero, Act.put, List.setIfInBounds_toArray, List.set_cons_zero, List.set_cons_succ])
    (refine Peel.take 3 (v := ?_) rfl rfl (by kernel_rfl) (by kernel_rfl) (by kernel_rfl) (fun _ _ _ h => h) (by assumption) ?_ ?_; rotate_left; (focus (intro w hSw; (try dsimp only at hSw); (try simp only [List.getElem_toArray, List.getElem_cons_succ, List.getElem_cons_zero]); go_simp; try (with_reducible rfl))); try simp only [List.getElem_toArray, List.getElem_cons_succ, List.getElem_cons_zero, Act.put, List.setIfInBounds_toArray, List.set_cons_zero, List.set_cons_succ])
    (refine Peel.take 4 (v := ?_) rfl rfl (by kernel_rfl) (by kernel_rfl) (by kernel_rfl) (fun _ _ _ h => h) (by assumption) ?_ ?_; rotate_left; (focus (intro w hSw; (try dsimp only at hSw); (try simp only [List.getElem_toArray, List.getElem_cons_succ, List.getElem_cons_zero]); go_simp; try (with_reducible rfl))); try simp only [List.getElem_toArray, List.getElem_cons_succ, List.getElem_cons_zero, Act.put, List.setIfInBounds_toArray, List.set_cons_zero, List.set_cons_succ])
    (refine wpAnyH_ready (rs := [5]) (by kernel_rfl) (by simp) ?_; refine AllReadyH.cons rfl (fun K hK => ?_) AllReadyH.nil)
    go_simp
    (refine hK.out _ _ ⟨x0d, g4d⟩ (fun hHeld => ?_); (clear hK K; try simp only [List.getElem_toArray, List.getElem_cons_succ, List.getElem_cons_zero, Act.put, List.setIfInBounds_toArray, List.set_cons_zero, List.set_cons_succ]))
    (refine wpAnyH_ready (rs := [6]) (by kernel_rfl) (by simp) ?_; refine AllReadyH.cons rfl (fun K hK => ?_) AllReadyH.nil)
    go_simp
    go_at_call 71
    refine (HDL.out _ HD2.out.1 HD2.out.2).mono ?_
    rintro e w3 ⟨A3, p3, c3, rfl, ho3, hC3, hr3⟩
    have y4 := blk_frz hC3.blk 4
    have z4 := blk_at hC3.blk 4 _ rfl
    (refine hK.out _ _ ⟨blk_at hC3.box 0 _ rfl, z4⟩ (fun hHeld => ?_); (clear hK K; try simp only [List.getElem_toArray, List.getElem_cons_succ, List.getElem_cons_zero, Act.put, List.setIfInBounds_toArray, List.set_cons_zero, List.set_cons_succ]))
    (refine Peel.take 7 (v := ?_) rfl rfl (by kernel_rfl) (by kernel_rfl) (by kernel_rfl) (fun _ _ _ h => h) (by assumption) ?_ ?_; rotate_left; (focus (intro w hSw; (try dsimp only at hSw); (try simp only [List.getElem_toArray, List.getElem_cons_succ, List.getElem_cons_zero]); go_simp; try (with_reducible rfl))); try simp only [List.getElem_toArray, List.getElem_cons_succ, List.getElem_cons_zero, Act.put, List.setIfInBounds_toArray, List.set_cons_zero, List.set_cons_succ])
    (refine Peel.take 8 (v := ?_) rfl rfl (by kernel_rfl) (by kernel_rfl) (by kernel_rfl) (fun _ _ _ h => h) (by assumption) ?_ ?_; rotate_left; (focus (intro w hSw; (try dsimp only at hSw); (try simp only [List.getElem_toArray, List.getElem_cons_succ, List.getElem_cons_zero]); go_simp; try (with_reducible rfl))); try simp only [List.getElem_toArray, List.getElem_cons_succ, List.getElem_cons_zero, Act.put, List.setIfInBounds_toArray, List.set_cons_zero, List.set_cons_succ])
    (refine wpAnyH_done (by kernel_rfl) ?_ _; simp only [Peel.Qn, List.drop_succ_cons, List.drop_zero]; clear hHeld)
    go_wp2
    focus
      have HT := Sd.mk (hC3.set4 ho3 hr3)
      clear y4 z4 hC3 ho3 hr3
      generalize w3.setCell _ _ = w9 at HT ⊢
      go_end0
      exact ⟨rfl, _, HT.out⟩
end Go.Proofs.Ytdmdfpbklflijaa.Tal
